/- The document's own reading: the parts. -/
import Derived.Test.YtgeheedfmdlefaaFrameSealedFns2
import Derived.Test.YtgeheedfmdlefaaFrameSealedFRefD
import Derived.Test.YtgeheedfmdlefaaFrameSealedFBack
import Derived.Laws.Strings
namespace Go.Proofs.Ytgeheedfmdlefaa.Pure
open Go.RowKit Go.Proofs.Ytgeheedfmdlefaa.PF Go.Proofs.YtgeheedfmdlefaaW.PrintWords Go.Proofs.YtgeheedfmdlefaaW.PrintLast Go.Proofs.YtgeheedfmdlefaaW.PrintMore
set_option linter.unusedVariables false

theorem value_loop (l : List Int) (hb : Bytes l) (hl : l.length ≤ 8) (k : Nat) : ∀ (d : Nat) (i : Nat), i + d = l.length → rf_value.l0 (k + d + 1) l (val (l.take i)) (i : Int) = some (val l) := by
  intro d
  induction d with
  | zero =>
    intro i hi
    rw [rf_value.l0, if_neg (by omega), List.take_of_length_le (by omega)]
  | succ d ih =>
    intro i hi
    have hlt : i < l.length := by omega
    have ih' := ih (i + 1) (by omega)
    rw [show k + (d + 1) + 1 = (k + d + 1) + 1 from by omega]
    generalize k + d + 1 = q at ih' ⊢
    have hr := hb l[i] (List.getElem_mem _)
    have hv := val_lt i (l.take i) (hb.take i) (by rw [List.length_take]; omega)
    have h0 := val_nonneg (hb.take i)
    have h7 : (256 : Int) ^ i ≤ 256 ^ 7 := by
      rcases (show i = 0 ∨ i = 1 ∨ i = 2 ∨ i = 3 ∨ i = 4 ∨ i = 5 ∨ i = 6 ∨ i = 7 from by omega) with h | h | h | h | h | h | h | h <;> subst h <;> decide
    have h7' : (256 : Int) ^ 7 = 72057594037927936 := by decide
    have hval : val (l.take (i + 1)) = val (l.take i) * 256 + l[i] := by rw [List.take_succ_eq_append_getElem hlt, val_snoc]
    rw [rf_value.l0, if_pos (by omega), if_pos (by omega), rd_nat hlt, wrapu_id (x := val (l.take i) * 256) (by omega) (by omega), wrapu_id (x := l[i]) (by omega) (by omega), wrapu_id (by omega) (by omega), wrap_id (by omega) (by omega), ← hval, show ((i : Int) + 1) = ((i + 1 : Nat) : Int) from by omega]
    exact ih'
theorem value_eq {l : List Int} (hb : Bytes l) (hl : l.length ≤ 8) {k : Nat} (hk : 9 ≤ k) : rf_value.f k l = some (val l) := by
  unfold rf_value.f
  obtain ⟨q, rfl⟩ : ∃ q, k = q + l.length + 1 := ⟨k - l.length - 1, by omega⟩
  exact value_loop l hb hl q l.length 0 (by omega)
theorem sum_ref_eq {l b t : List Int} (e : l = b ++ t) (hb : Bytes l) (ht : t.length = 4) (hl : l.length < 140737488355328) {k : Nat} (hk : 10 * l.length + 9 ≤ k) : rf_sum.f k l = some (val t == crc b) := by
  have hbb : Bytes b := by rw [e] at hb; exact hb.left
  have htb : Bytes t := by rw [e] at hb; exact hb.right
  have hlen : l.length = b.length + 4 := by rw [e, List.length_append, ht]
  have hc := crc_range hbb
  unfold rf_sum.f
  rw [wrap_id (by omega) (by omega), if_pos (by omega), if_pos (by omega), show ((l.length : Int) - 4).toNat = b.length from by omega]
  rw [show l.drop b.length = t from by rw [e]; exact List.drop_left' rfl, show l.take b.length = b from by rw [e]; exact List.take_left' rfl]
  rw [value_eq htb (by omega) (by omega), Option.bind_some, sum_ref hbb (by omega) (by omega), Option.bind_some, wrapu_id (by omega) (by omega)]
theorem nums_inj : ∀ {a b : List Int}, Bytes a → Bytes b → a.map (fun n => UInt8.ofNat n.toNat) = b.map (fun n => UInt8.ofNat n.toNat) → a = b
  | [], [], _, _, _ => rfl
  | [], _ :: _, _, _, h => by simp at h
  | _ :: _, [], _, _, h => by simp at h
  | x :: a, y :: b, ha, hb, h => by
    rw [List.map_cons, List.map_cons] at h
    injection h with h1 h2
    have hx := ha.cons.1
    have hy := hb.cons.1
    have h3 := congrArg UInt8.toNat h1
    rw [UInt8.toNat_ofNat', UInt8.toNat_ofNat', Nat.mod_eq_of_lt (by omega), Nat.mod_eq_of_lt (by omega)] at h3
    rw [nums_inj ha.cons.2 hb.cons.2 h2, show x = y from by omega]
theorem same_eq {a b : List Int} (ha : Bytes a) (hb : Bytes b) : rf_same.f a b = some (decide (a = b)) := by
  unfold rf_same.f
  congr 1
  by_cases h : a = b
  · rw [decide_eq_true h, h]
    simp
  · rw [decide_eq_false h]
    refine beq_eq_false_iff_ne.2 (fun e => h (nums_inj ha hb ?_))
    rw [ByteArray.toList_eq, ByteArray.toList_eq] at e
    exact e
theorem part (l : List Int) (n : Nat) (h : n ≤ l.length) : ∃ a b, l = a ++ b ∧ a.length = n ∧ b.length = l.length - n :=
  ⟨l.take n, l.drop n, (List.take_append_drop n l).symm, by rw [List.length_take]; omega, by rw [List.length_drop]⟩
theorem four (l : List Int) (h : l.length = 4) : ∃ a b c d, l = [a, b, c, d] := by
  match l, h with
  | [a, b, c, d], _ => exact ⟨a, b, c, d, rfl⟩
end Go.Proofs.Ytgeheedfmdlefaa.Pure
