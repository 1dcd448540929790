/- Plain facts about the printed frame functions: the sum, numbers as bytes, and bytes as numbers. -/
import Derived.Test.YtgeheedfmdlefaaFrameSealedFns1
import Derived.Test.YtgeheedfmdlefaaFrameSealedFns0
import Derived.OpenShut
import Derived.Laws.BitsAllLaws
namespace Go.Proofs.Ytgeheedfmdlefaa.Pure
open Go.RowKit Go.Proofs.Ytgeheedfmdlefaa.PF Go.Proofs.YtgeheedfmdlefaaW.PrintWords Go.Proofs.YtgeheedfmdlefaaW.PrintLast Go.Proofs.YtgeheedfmdlefaaW.PrintMore
set_option linter.unusedVariables false

theorem wrap_id {x : Int} (h0 : -9223372036854775808 ≤ x) (h1 : x ≤ 9223372036854775807) : wrap64 x = x := by
  unfold wrap64
  omega
theorem wrapu_id {x : Int} (h0 : 0 ≤ x) (h1 : x < 18446744073709551616) : IntKind.u64.wrap x = x := by
  rw [IntKind.wrap_u64]
  omega

/-- All numbers are bytes. -/
def Bytes (l : List Int) : Prop := ∀ x ∈ l, 0 ≤ x ∧ x ≤ 255
theorem Bytes.cons {x : Int} {l : List Int} (h : Bytes (x :: l)) : (0 ≤ x ∧ x ≤ 255) ∧ Bytes l := ⟨h x (List.mem_cons_self ..), fun y hy => h y (List.mem_cons_of_mem _ hy)⟩
theorem Bytes.append {l m : List Int} (h : Bytes l) (k : Bytes m) : Bytes (l ++ m) := fun x hx => (List.mem_append.1 hx).elim (h x) (k x)
theorem Bytes.left {l m : List Int} (h : Bytes (l ++ m)) : Bytes l := fun x hx => h x (List.mem_append_left _ hx)
theorem Bytes.right {l m : List Int} (h : Bytes (l ++ m)) : Bytes m := fun x hx => h x (List.mem_append_right _ hx)
theorem Bytes.take {l : List Int} (h : Bytes l) (n : Nat) : Bytes (l.take n) := fun x hx => h x (List.mem_of_mem_take hx)
theorem Bytes.drop {l : List Int} (h : Bytes l) (n : Nat) : Bytes (l.drop n) := fun x hx => h x (List.mem_of_mem_drop hx)
theorem Bytes.at {l : List Int} (h : Bytes l) (i : Int) : 0 ≤ rd l i ∧ rd l i ≤ 255 := by
  unfold rd
  rw [List.getD_eq_getElem?_getD]
  rcases Nat.lt_or_ge i.toNat l.length with hi | hi
  · rw [List.getElem?_eq_getElem hi, Option.getD_some]
    exact h _ (List.getElem_mem _)
  · rw [List.getElem?_eq_none hi, Option.getD_none]
    omega

/-! ### numbers as bytes -/
def be : Nat → Int → List Int
  | 0, _ => []
  | d + 1, v => (v / 256 ^ d) % 256 :: be d v
theorem be_length (d : Nat) (v : Int) : (be d v).length = d := by
  induction d with
  | zero => rfl
  | succ d ih => simp [be, ih]
theorem be_bytes (d : Nat) (v : Int) : Bytes (be d v) := by
  induction d with
  | zero => intro x hx; simp [be] at hx
  | succ d ih =>
    intro x hx
    rcases List.mem_cons.1 hx with rfl | hx
    · omega
    · exact ih x hx
theorem be_snoc (d : Nat) (v : Int) : be (d + 1) v = be d (v / 256) ++ [v % 256] := by
  induction d with
  | zero => simp [be]
  | succ d ih =>
    rw [be, ih, be, List.cons_append]
    congr 2
    rw [Int.pow_succ, Int.mul_comm, Int.ediv_ediv_of_nonneg (by omega)]
/-- Bytes as a number. -/
def val (l : List Int) : Int := l.foldl (fun n c => n * 256 + c) 0
theorem val_snoc (l : List Int) (c : Int) : val (l ++ [c]) = val l * 256 + c := by simp [val]
theorem val_nonneg {l : List Int} (h : Bytes l) : 0 ≤ val l := by
  have : ∀ (m : List Int) (n : Int), 0 ≤ n → Bytes m → 0 ≤ m.foldl (fun n c => n * 256 + c) n := by
    intro m
    induction m with
    | nil => exact fun n hn _ => hn
    | cons c m ih => exact fun n hn hb => ih _ (by have := hb.cons.1; show 0 ≤ n * 256 + c; omega) hb.cons.2
  exact this l 0 (by omega) h
theorem snoc_cases (l : List Int) : l = [] ∨ ∃ m c, l = m ++ [c] := by
  rcases List.eq_nil_or_concat l with h | ⟨m, c, h⟩
  · exact .inl h
  · exact .inr ⟨m, c, by simpa using h⟩
theorem val_lt : ∀ (d : Nat) (l : List Int), Bytes l → l.length = d → val l < 256 ^ d := by
  intro d
  induction d with
  | zero => intro l _ hl; rw [List.length_eq_zero_iff.1 hl]; show (0 : Int) < 1; omega
  | succ d ih =>
    intro l hb hl
    rcases snoc_cases l with rfl | ⟨m, c, rfl⟩
    · simp at hl
    · rw [val_snoc]
      have h1 := ih m hb.left (by simpa using hl)
      have h2 := hb.right c (by simp)
      rw [Int.pow_succ]
      omega
theorem be_val : ∀ (d : Nat) (l : List Int), Bytes l → l.length = d → be d (val l) = l := by
  intro d
  induction d with
  | zero => intro l _ hl; rw [List.length_eq_zero_iff.1 hl]; rfl
  | succ d ih =>
    intro l hb hl
    rcases snoc_cases l with rfl | ⟨m, c, rfl⟩
    · simp at hl
    · have h2 := hb.right c (by simp)
      rw [be_snoc, val_snoc, show (val m * 256 + c) / 256 = val m from by omega, show (val m * 256 + c) % 256 = c from by omega, ih m hb.left (by simpa using hl)]
theorem val_be : ∀ (d : Nat) (v : Int), 0 ≤ v → v < 256 ^ d → val (be d v) = v := by
  intro d
  induction d with
  | zero => intro v h0 h1; have : v = 0 := by simp at h1; omega
            subst this; rfl
  | succ d ih =>
    intro v h0 h1
    rw [be_snoc, val_snoc, ih (v / 256) (by omega) (by rw [Int.pow_succ] at h1; omega)]
    omega

theorem put_loop (v : Int) (h0 : 0 ≤ v) (h1 : v < 18446744073709551616) (k : Nat) : ∀ (d : Nat) (l : List Int), d ≤ 8 → l.length + d < 140737488355328 → frame_put.l0 (k + d + 1) l v ((d : Int) - 1) = some (l ++ be d v) := by
  intro d
  induction d with
  | zero =>
    intro l _ _
    simp only [frame_put.l0]
    rw [if_neg (by omega)]
    simp [be]
  | succ d ih =>
    intro l hd hl
    have ih' := ih
    rw [show k + (d + 1) + 1 = (k + d + 1) + 1 from by omega]
    generalize k + d + 1 = q at ih' ⊢
    simp only [frame_put.l0]
    rw [if_pos (by omega), wrap_id (x := 8 * (((d + 1 : Nat) : Int) - 1)) (by omega) (by omega), wrapu_id (by omega) (by omega), if_pos (by omega), if_pos (by omega), wrap_id (by omega) (by omega)]
    have e1 : ((d + 1 : Nat) : Int) - 1 - 1 = (d : Int) - 1 := by omega
    rw [e1, ih' _ (by omega) (by rw [List.length_append, List.length_singleton]; omega), List.append_assoc]
    congr 2
    rw [be, List.singleton_append]
    congr 1
    unfold shr
    have e2 : (8 * (((d + 1 : Nat) : Int) - 1)).toNat = 8 * d := by omega
    rw [e2, Nat.min_eq_left (by show 8 * d ≤ 64; omega)]
    congr 2
    rw [Int.pow_mul]
    rfl
theorem put_eq {l : List Int} {v : Int} {n : Nat} (h0 : 0 ≤ v) (h1 : v < 18446744073709551616) (hn : n ≤ 8) (hl : l.length + n < 140737488355328) {k : Nat} (hk : 9 ≤ k) : frame_put.f k l v n = some (l ++ be n v) := by
  unfold frame_put.f
  rw [wrap_id (by omega) (by omega)]
  obtain ⟨q, rfl⟩ : ∃ q, k = q + n + 1 := ⟨k - n - 1, by omega⟩
  exact put_loop v h0 h1 q n l hn hl

theorem get_loop (l : List Int) (hb : Bytes l) (hl : l.length ≤ 8) (k : Nat) : ∀ (d : Nat) (i : Nat), i + d = l.length → frame_get.l0 (k + d + 1) (val (l.take i)) l (l.length : Int) (i : Int) = some (val l) := by
  intro d
  induction d with
  | zero =>
    intro i hi
    simp only [frame_get.l0]
    rw [if_neg (by omega), List.take_of_length_le (by omega)]
  | succ d ih =>
    intro i hi
    have ih' := ih
    rw [show k + (d + 1) + 1 = (k + d + 1) + 1 from by omega]
    generalize k + d + 1 = q at ih' ⊢
    simp only [frame_get.l0]
    rw [if_pos (by omega), if_pos (by omega), if_pos (by omega), wrap_id (by omega) (by omega)]
    have hr := hb.at (i : Int)
    have hlt := val_lt i (l.take i) (hb.take i) (by rw [List.length_take]; omega)
    have h0 := val_nonneg (hb.take i)
    have h7 : (256 : Int) ^ i ≤ 256 ^ 7 := by
      rcases (show i = 0 ∨ i = 1 ∨ i = 2 ∨ i = 3 ∨ i = 4 ∨ i = 5 ∨ i = 6 ∨ i = 7 from by omega) with h | h | h | h | h | h | h | h <;> subst h <;> decide
    have h7' : (256 : Int) ^ 7 = 72057594037927936 := by decide
    have hsnoc : l.take (i + 1) = l.take i ++ [rd l (i : Int)] := by
      rw [List.take_succ_eq_append_getElem (by omega)]
      congr 2
      unfold rd
      rw [List.getD_eq_getElem?_getD, show ((i : Int)).toNat = i from by omega, List.getElem?_eq_getElem (by omega), Option.getD_some]
    have hval : val (l.take (i + 1)) = val (l.take i) * 256 + rd l (i : Int) := by rw [hsnoc, val_snoc]
    have hor : Go.bits .or .u64 (IntKind.u64.wrap (val (l.take i) * 256)) (IntKind.u64.wrap (rd l (i : Int))) = val (l.take (i + 1)) := by
      rw [wrapu_id (by omega) (by omega), wrapu_id (by omega) (by omega), hval]
      exact bits_join .u64 64 (by decide) (fun n h0 h1 => wrapu_id h0 (by simpa using h1)) 8 (val (l.take i) * 256) (rd l (i : Int)) (by omega) (by omega) (by simp; omega) (by omega) (by simp; omega) (by simp; omega)
    rw [hor]
    have := ih' (i + 1) (by omega)
    rw [show ((i : Int) + 1) = ((i + 1 : Nat) : Int) from by omega]
    exact this
theorem get_eq {l : List Int} (hb : Bytes l) (hl : l.length ≤ 8) {k : Nat} (hk : 9 ≤ k) : frame_get.f k l = some (val l) := by
  unfold frame_get.f
  obtain ⟨q, rfl⟩ : ∃ q, k = q + l.length + 1 := ⟨k - l.length - 1, by omega⟩
  exact get_loop l hb hl q l.length 0 (by omega)
end Go.Proofs.Ytgeheedfmdlefaa.Pure
