/- The document's own answer for control and data frames, plainly. -/
import Derived.Test.YtgeheedfmdlefaaFrameSealedFns2
import Derived.Test.YtgeheedfmdlefaaFrameSealedFns1
import Derived.Test.YtgeheedfmdlefaaFrameSealedFControl
namespace Go.Proofs.Ytgeheedfmdlefaa.Pure
open Go.RowKit Go.Proofs.Ytgeheedfmdlefaa.PF Go.Proofs.YtgeheedfmdlefaaW.PrintWords Go.Proofs.YtgeheedfmdlefaaW.PrintLast Go.Proofs.YtgeheedfmdlefaaW.PrintMore
set_option linter.unusedVariables false

theorem set_mid (d : Nat) (c : Int) (T : List Int) : (List.replicate (d + 1) 0 ++ T).set d c = List.replicate d 0 ++ c :: T := by
  rw [List.replicate_succ', List.append_assoc, List.set_append_right _ _ (by simp)]
  simp
theorem number_loop (k : Nat) : ∀ (d : Nat) (x : Int) (T : List Int), 0 ≤ x → x < 18446744073709551616 → d < 1000 → rf_number.l0 (k + d + 1) x (List.replicate d 0 ++ T) ((d : Int) - 1) = some (be d x ++ T) := by
  intro d
  induction d with
  | zero =>
    intro x T h0 h1 hd
    rw [rf_number.l0, if_neg (by omega)]
    rfl
  | succ d ih =>
    intro x T h0 h1 hd
    have ih' := ih (x / 256) (x % 256 :: T) (by omega) (by omega) (by omega)
    rw [show k + (d + 1) + 1 = (k + d + 1) + 1 from by omega]
    generalize k + d + 1 = q at ih' ⊢
    rw [rf_number.l0, if_pos (by omega), if_pos (by omega), if_pos (by simp only [List.length_append, List.length_replicate]; omega)]
    rw [Int.tdiv_eq_ediv_of_nonneg h0, Int.tmod_eq_emod_of_nonneg h0, wrapu_id (by omega) (by omega), wrap_id (by omega) (by omega), show (((d + 1 : Nat) : Int) - 1).toNat = d from by omega, show x % 256 % 256 = x % 256 from by omega,
      set_mid, show (((d + 1 : Nat) : Int) - 1 - 1) = (d : Int) - 1 from by omega, ih', be_snoc, List.append_assoc]
    rfl
theorem number_eq (n : Nat) {x : Int} (h0 : 0 ≤ x) (h1 : x < 18446744073709551616) (hn : n < 1000) {k : Nat} (hk : n + 1 ≤ k) : rf_number.f k x (n : Int) = some (be n x) := by
  unfold rf_number.f
  rw [if_pos (by omega), if_pos (by omega), wrap_id (by omega) (by omega), show ((n : Int)).toNat = n from by omega]
  obtain ⟨q, rfl⟩ : ∃ q, k = q + n + 1 := ⟨k - n - 1, by omega⟩
  have := number_loop q n x [] h0 h1 hn
  simpa using this
theorem lay_loop (m : List Int) (hm : m.length < 140737488355328) (k : Nat) : ∀ (d i : Nat) (l : List Int), i + d = m.length → l.length + d < 140737488355328 → rf_lay.l0 (k + d + 1) l m (i : Int) = some (l ++ m.drop i) := by
  intro d
  induction d with
  | zero =>
    intro i l hi hl
    rw [rf_lay.l0, if_neg (by omega), List.drop_of_length_le (by omega), List.append_nil]
  | succ d ih =>
    intro i l hi hl
    have hlt : i < m.length := by omega
    have ih' := ih (i + 1) (l ++ [m[i]]) (by omega) (by rw [List.length_append, List.length_singleton]; omega)
    rw [show k + (d + 1) + 1 = (k + d + 1) + 1 from by omega]
    generalize k + d + 1 = q at ih' ⊢
    rw [rf_lay.l0, if_pos (by omega), if_pos (by omega), if_pos (by omega), rd_nat hlt, wrap_id (by omega) (by omega), show ((i : Int) + 1) = ((i + 1 : Nat) : Int) from by omega, ih', List.drop_eq_getElem_cons hlt, List.append_assoc]
    rfl
theorem lay_eq {l m : List Int} (hl : l.length + m.length < 140737488355328) {k : Nat} (hk : m.length + 1 ≤ k) : rf_lay.f k l m = some (l ++ m) := by
  unfold rf_lay.f
  obtain ⟨q, rfl⟩ : ∃ q, k = q + m.length + 1 := ⟨k - m.length - 1, by omega⟩
  exact lay_loop m (by omega) q m.length 0 l (by omega) hl

theorem bit_loop' (l : List Int) (i : Int) (k : Nat) : ∀ (d : Nat), d ≤ 8 → ∀ (r : Nat), r < 4294967296 →
    rf_Sum.l1 (k + d + 1) l (r : Int) i (8 - (d : Int)) = rf_Sum.l0 k l (it d r : Nat) (wrap64 (i + 1)) := by
  intro d
  induction d with
  | zero =>
    intro _ r h
    rw [rf_Sum.l1, if_neg (by omega)]
    rfl
  | succ d ih =>
    intro hd r h
    have ih' := ih (by omega)
    rw [show k + (d + 1) + 1 = (k + d + 1) + 1 from by omega]
    generalize k + d + 1 = q at ih' ⊢
    rw [rf_Sum.l1, if_pos (by omega), Int.tmod_eq_emod_of_nonneg (by omega), Int.tdiv_eq_ediv_of_nonneg (by omega), wrap_id (by omega) (by omega), show (8 - ((d + 1 : Nat) : Int) + 1) = 8 - (d : Int) from by omega]
    rw [show ((r : Int) / 2 % 4294967296) = ((r / 2 : Nat) : Int) from by omega, xor_poly (by omega)]
    rw [it, step]
    by_cases hr : r % 2 = 1
    · rw [if_pos (by omega), if_pos hr]
      exact ih' _ (xor_lt (by omega) (by omega))
    · rw [if_neg (by omega), if_neg hr]
      exact ih' _ (by omega)
theorem bit8' (l : List Int) (i : Int) (k : Nat) (r c : Nat) (hr : r < 4294967296) (hc : c < 4294967296) :
    rf_Sum.l1 (k + 8 + 1) l ((r ^^^ c : Nat) : Int) i 0 = rf_Sum.l0 k l (byte r c : Nat) (wrap64 (i + 1)) :=
  bit_loop' l i k 8 (by omega) (r ^^^ c) (xor_lt hr hc)
theorem byte_loop' (l : List Int) (hb : Bytes l) (hl : l.length < 9223372036854775807) (k : Nat) : ∀ (d i : Nat), i + d = l.length → ∀ (r : Nat), r < 4294967296 →
    rf_Sum.l0 (k + 10 * d + 1) l (r : Int) (i : Int) = some ((4294967295 ^^^ reg r (l.drop i) : Nat) : Int) := by
  intro d
  induction d with
  | zero =>
    intro i hi r h
    rw [rf_Sum.l0, if_neg (by omega), List.drop_of_length_le (by omega), xor_ones' h]
    rfl
  | succ d ih =>
    intro i hi r h
    have hlt : i < l.length := by omega
    have hr := hb l[i] (List.getElem_mem _)
    rw [show k + 10 * (d + 1) + 1 = (((k + 10 * d + 1) + 8) + 1) + 1 from by omega]
    have ih' := ih (i + 1) (by omega) (byte r l[i].toNat) (byte_lt h (by omega))
    generalize k + 10 * d + 1 = q at ih' ⊢
    rw [rf_Sum.l0, if_pos (by omega), if_pos (by omega), rd_nat hlt, xor_byte h hr.1 hr.2]
    refine (bit8' l (i : Int) q r l[i].toNat h (by omega)).trans ?_
    rw [wrap_id (by omega) (by omega), show ((i : Int) + 1) = ((i + 1 : Nat) : Int) from by omega]
    have e : reg r (l.drop i) = reg (byte r l[i].toNat) (l.drop (i + 1)) := by
      rw [List.drop_eq_getElem_cons hlt]
      rfl
    rw [e]
    exact ih'
theorem sum_ref {l : List Int} (hb : Bytes l) (hl : l.length < 9223372036854775807) {k : Nat} (hk : 10 * l.length + 1 ≤ k) : rf_Sum.f k l = some (crc l) := by
  unfold rf_Sum.f
  obtain ⟨q, rfl⟩ : ∃ q, k = q + 10 * l.length + 1 := ⟨k - (10 * l.length + 1), by omega⟩
  exact byte_loop' l hb hl q l.length 0 (by omega) 4294967295 (by omega)

theorem number2 {x : Int} (h0 : 0 ≤ x) (h1 : x < 18446744073709551616) {k : Nat} (hk : 9 ≤ k) : rf_number.f k x 2 = some (be 2 x) := number_eq 2 h0 h1 (by omega) (by omega)
theorem number4 {x : Int} (h0 : 0 ≤ x) (h1 : x < 18446744073709551616) {k : Nat} (hk : 9 ≤ k) : rf_number.f k x 4 = some (be 4 x) := number_eq 4 h0 h1 (by omega) (by omega)
theorem number6 {x : Int} (h0 : 0 ≤ x) (h1 : x < 18446744073709551616) {k : Nat} (hk : 9 ≤ k) : rf_number.f k x 6 = some (be 6 x) := number_eq 6 h0 h1 (by omega) (by omega)
theorem number8 {x : Int} (h0 : 0 ≤ x) (h1 : x < 18446744073709551616) {k : Nat} (hk : 9 ≤ k) : rf_number.f k x 8 = some (be 8 x) := number_eq 8 h0 h1 (by omega) (by omega)

theorem rightC_ref (a b c d e : Int) : rf_RightControl.f a b c d e = some (decide (rightC a b c d e)) := by
  unfold rf_RightControl.f
  repeat' split
  all_goals first
    | exact congrArg some (decide_eq_false (by unfold rightC; omega)).symm
    | exact congrArg some (decide_eq_decide.2 (by unfold rightC; omega))
theorem control_ref {a b c d e : Int} (h : rightC a b c d e) (hd : 0 ≤ d) {k : Nat} (hk : 400 ≤ k) : rf_Control.f k a b c d e = some (shut (bodyC a b c d e)) := by
  unfold rf_Control.f
  have h' := h
  unfold rightC at h'
  have hl := bodyC_length a b c d e
  have hb := bodyC_bytes a b c d e
  have hc := crc_range hb
  rw [wrapu_id (x := c) (by omega) (by omega), number8 (by omega) (by omega) (by omega), Option.bind_some, lay_eq (by simp [be_length]) (by rw [be_length]; omega), Option.bind_some]
  rw [wrapu_id (x := d) (by omega) (by omega), number4 (by omega) (by omega) (by omega), Option.bind_some, lay_eq (by simp [be_length]) (by rw [be_length]; omega), Option.bind_some]
  rw [wrapu_id (x := e) (by omega) (by omega), number8 (by omega) (by omega) (by omega), Option.bind_some, lay_eq (by simp [be_length]) (by rw [be_length]; omega), Option.bind_some]
  rw [number6 (by omega) (by omega) (by omega), Option.bind_some, lay_eq (by simp [be_length]) (by rw [be_length]; omega), Option.bind_some]
  have e1 : [137, 29, a % 256, b % 256] ++ be 8 c ++ be 4 d ++ be 8 e ++ be 6 0 = bodyC a b c d e := by
    unfold bodyC
    simp only [List.append_assoc]
  rw [e1, sum_ref hb (by omega) (by omega), Option.bind_some, wrapu_id (by omega) (by omega), number4 (by omega) (by omega) (by omega), Option.bind_some, lay_eq (by rw [hl, be_length]; omega) (by rw [be_length]; omega), Option.bind_some]
  rfl
end Go.Proofs.Ytgeheedfmdlefaa.Pure
