/- The document's own answer for data frames, plainly. -/
import Derived.Test.YtgeheedfmdlefaaFrameSealedFns3
import Derived.Test.YtgeheedfmdlefaaFrameSealedFns4
import Derived.Test.YtgeheedfmdlefaaFrameSealedFRef
namespace Go.Proofs.Ytgeheedfmdlefaa.Pure
open Go.RowKit Go.Proofs.Ytgeheedfmdlefaa.PF Go.Proofs.YtgeheedfmdlefaaW.PrintWords Go.Proofs.YtgeheedfmdlefaaW.PrintLast Go.Proofs.YtgeheedfmdlefaaW.PrintMore
set_option linter.unusedVariables false

theorem rightD_ref (c l n : Int) (p : ByteArray) (s : Int) : rf_RightData.f c l n p s = some (decide (rightD c l n p.size s)) := by
  unfold rf_RightData.f
  repeat' split
  all_goals first
    | exact congrArg some (decide_eq_false (by unfold rightD; omega)).symm
    | (rw [wrap_id (x := s - 14) (by omega) (by omega)]; exact congrArg some (decide_eq_decide.2 (by unfold rightD; omega)))
theorem fill_loop (c l n : Int) (p : ByteArray) (s : Int) (hs : 64 ≤ s ∧ s ≤ 1518) (k : Nat) : ∀ (d : Nat) (x : List Int), (x.length : Int) + d = s - 4 →
    rf_Data.l0 (k + d + 1) x c l n p s = rf_Data.l0 (k + 1) (x ++ List.replicate d 0) c l n p s := by
  intro d
  induction d with
  | zero =>
    intro x hx
    rw [List.replicate_zero, List.append_nil]
  | succ d ih =>
    intro x hx
    have ih' := ih (x ++ [0]) (by rw [List.length_append, List.length_singleton]; omega)
    rw [show k + (d + 1) + 1 = (k + d + 1) + 1 from by omega]
    generalize k + d + 1 = q at ih' ⊢
    conv => lhs; rw [rf_Data.l0]
    rw [wrap_id (by omega) (by omega), if_pos (by omega), if_pos (by omega), ih', List.append_assoc]
    rfl
theorem data_ref {c l n : Int} {p : ByteArray} {s : Int} (h : rightD c l n p.size s) {k : Nat} (hk : 20000 ≤ k) : rf_Data.f k c l n p s = some (shut (bodyD c l n p s)) := by
  have hl := bodyD_length h
  have hb := bodyD_bytes c l n p s
  have hh := headD_length c l n p
  have hc := crc_range hb
  have h' := h
  unfold rightD at h'
  have hz : p.size ≤ 1504 := by omega
  unfold rf_Data.f
  rw [wrapu_id (x := n) (by omega) (by omega), number4 (by omega) (by omega) (by omega), Option.bind_some, lay_eq (by simp [be_length]) (by rw [be_length]; omega), Option.bind_some]
  rw [wrapu_id (x := (p.size : Int)) (by omega) (by omega), number2 (by omega) (by omega) (by omega), Option.bind_some, lay_eq (by simp [be_length]) (by rw [be_length]; omega), Option.bind_some]
  rw [if_pos (by omega), lay_eq (by simp only [List.length_append, be_length, bytesOf_length, List.length_cons, List.length_nil]; omega) (by rw [bytesOf_length]; omega), Option.bind_some]
  have e : [8, 0, c % 256, l % 256] ++ be 4 n ++ be 2 (p.size : Int) ++ bytesOf p = headD c l n p := rfl
  rw [e]
  obtain ⟨d, hd⟩ : ∃ d, d = (s - 14 - p.size).toNat := ⟨_, rfl⟩
  obtain ⟨q, rfl⟩ : ∃ q, k = q + d + 1 := ⟨k - d - 1, by omega⟩
  rw [fill_loop c l n p s ⟨by omega, by omega⟩ q d (headD c l n p) (by omega)]
  have e3 : headD c l n p ++ List.replicate d 0 = bodyD c l n p s := by rw [hd]; rfl
  rw [e3, rf_Data.l0, wrap_id (x := s - 4) (by omega) (by omega), if_neg (by omega), sum_ref hb (by omega) (by omega), Option.bind_some, wrapu_id (by omega) (by omega), number4 (by omega) (by omega) (by omega), Option.bind_some, lay_eq (by rw [be_length]; omega) (by rw [be_length]; omega), Option.bind_some]
  rfl
end Go.Proofs.Ytgeheedfmdlefaa.Pure
