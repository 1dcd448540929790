/- What a control frame is written as, and how it is read. -/
import Derived.Test.YtgeheedfmdlefaaFrameSealedFns0
import Derived.Test.YtgeheedfmdlefaaFrameSealedFData
namespace Go.Proofs.Ytgeheedfmdlefaa.Pure
open Go.RowKit Go.Proofs.Ytgeheedfmdlefaa.PF Go.Proofs.YtgeheedfmdlefaaW.PrintWords Go.Proofs.YtgeheedfmdlefaaW.PrintLast Go.Proofs.YtgeheedfmdlefaaW.PrintMore
set_option linter.unusedVariables false

def rightC (a b c d e : Int) : Prop := 1 ≤ a ∧ a ≤ 2 ∧ 0 ≤ b ∧ b ≤ 7 ∧ 0 ≤ c ∧ c ≤ 1125899906842624 ∧ d < 64 ∧ 0 ≤ e ∧ e ≤ 1048576
instance (a b c d e : Int) : Decidable (rightC a b c d e) := by unfold rightC; infer_instance
theorem rightControl_eq (a b c d e : Int) : frame_rightControl.f a b c d e = some (decide (rightC a b c d e)) := by
  unfold frame_rightControl.f
  simp only [within_eq, Option.bind_some, decide_eq_true_eq]
  repeat' split
  all_goals first
    | exact congrArg some (decide_eq_false (by unfold rightC; omega)).symm
    | exact congrArg some (decide_eq_decide.2 (by unfold rightC; omega))

def bodyC (a b c d e : Int) : List Int := [137, 29, a % 256, b % 256] ++ (be 8 c ++ (be 4 d ++ (be 8 e ++ be 6 0)))
theorem bodyC_length (a b c d e : Int) : (bodyC a b c d e).length = 30 := by
  unfold bodyC
  simp only [List.length_append, be_length, List.length_cons, List.length_nil]
theorem bodyC_bytes (a b c d e : Int) : Bytes (bodyC a b c d e) := by
  unfold bodyC
  refine Bytes.append ?_ (Bytes.append (be_bytes _ _) (Bytes.append (be_bytes _ _) (Bytes.append (be_bytes _ _) (be_bytes _ _))))
  intro x hx
  simp only [List.mem_cons, List.not_mem_nil, or_false] at hx
  rcases hx with rfl | rfl | rfl | rfl <;> omega
theorem control_eq {a b c d e : Int} (h : rightC a b c d e) (hd : 0 ≤ d) {k : Nat} (hk : 400 ≤ k) : frame_Control.f k a b c d e = some (shut (bodyC a b c d e), 0) := by
  unfold frame_Control.f
  rw [rightControl_eq, Option.bind_some, decide_eq_true h, if_pos rfl]
  have h' := h
  unfold rightC at h'
  rw [wrapu_id (x := c) (by omega) (by omega), put8 (by omega) (by omega) (by simp) (by omega), Option.bind_some]
  rw [wrapu_id (x := d) (by omega) (by omega), put4 (by omega) (by omega) (by simp [be_length]) (by omega), Option.bind_some]
  rw [wrapu_id (x := e) (by omega) (by omega), put8 (by omega) (by omega) (by simp [be_length]) (by omega), Option.bind_some]
  rw [put6 (by omega) (by omega) (by simp [be_length]) (by omega), Option.bind_some]
  have e1 : [137, 29, a % 256, b % 256] ++ be 8 c ++ be 4 d ++ be 8 e ++ be 6 0 = bodyC a b c d e := by
    unfold bodyC
    simp only [List.append_assoc]
  have hl := bodyC_length a b c d e
  rw [e1, sealed_eq (bodyC_bytes a b c d e) (by omega) (by omega)]
  rfl
theorem control_no {a b c d e : Int} (h : ¬ rightC a b c d e) (k : Nat) : frame_Control.f k a b c d e = some ([], 1) := by
  unfold frame_Control.f
  rw [rightControl_eq, Option.bind_some, decide_eq_false h, if_neg (by simp)]

theorem seg (A B C : List Int) {l : List Int} (e : l = A ++ (B ++ C)) {i j : Nat} (hi : A.length = i) (hj : A.length + B.length = j) : (l.take j).drop i = B := by
  subst e
  rw [← List.append_assoc, List.take_left' (by rw [List.length_append]; omega), List.drop_left' hi]
theorem getn {l : List Int} (hb : Bytes l) (hl : l.length ≤ 8) {k : Nat} (hk : 9 ≤ k) : frame_get.f k l = some (val l) := get_eq hb hl hk

theorem open_eq {l b t : List Int} (e : l = b ++ t) (hb : Bytes l) (ht : t.length = 4) (hl : l.length < 140737488355328) {k : Nat} (hk : 10 * l.length + 9 ≤ k) : frame_open.f k l = some (val t == crc b) := by
  have hbb : Bytes b := by rw [e] at hb; exact hb.left
  have htb : Bytes t := by rw [e] at hb; exact hb.right
  have hlen : l.length = b.length + 4 := by rw [e, List.length_append, ht]
  have hc := crc_range hbb
  unfold frame_open.f
  rw [wrap_id (by omega) (by omega), if_pos (by omega), if_pos (by omega), show ((l.length : Int) - 4).toNat = b.length from by omega]
  rw [show l.drop b.length = t from by rw [e]; exact List.drop_left' rfl, show l.take b.length = b from by rw [e]; exact List.take_left' rfl]
  rw [getn htb (by omega) (by omega), Option.bind_some, sum_eq hbb (by omega) (by omega), Option.bind_some, wrapu_id (by omega) (by omega)]
theorem open_shut {b : List Int} (hb : Bytes b) (hl : b.length < 140737488355000) {k : Nat} (hk : 10 * b.length + 60 ≤ k) : frame_open.f k (shut b) = some true := by
  have hc := crc_range hb
  have hs := shut_length b
  rw [open_eq (l := shut b) (b := b) (t := be 4 (crc b)) rfl (shut_bytes hb) (be_length _ _) (by omega) (by omega), val_be 4 _ hc.1 (by simpa using hc.2)]
  simp
theorem which_eq {l : List Int} (hb : Bytes l) (hl : 2 ≤ l.length) {k : Nat} (hk : 9 ≤ k) : frame_Which.f k l = some (if val (l.take 2) = 35101 then 1 else if val (l.take 2) = 2048 then 2 else 0) := by
  unfold frame_Which.f
  rw [if_pos (by omega), if_pos (by omega), getn (hb.take 2) (by rw [List.length_take]; omega) hk, Option.bind_some]
  split
  · rfl
  · split <;> rfl

theorem wf_i64 {x : Int} (h : (Lit.int .i64 x).wf = true) : -9223372036854775808 ≤ x ∧ x ≤ 9223372036854775807 := by
  simp [Lit.wf, IntKind.min, IntKind.max, IntKind.bits, IntKind.signed] at h
  omega
theorem wf_u32 {x : Int} (h : (Lit.int .u32 x).wf = true) : 0 ≤ x ∧ x < 4294967296 := by
  simp [Lit.wf, IntKind.min, IntKind.max, IntKind.bits, IntKind.signed] at h
  omega
/-- What was written is read again as it was. -/
theorem readControl_back {a b c d e : Int} (h : rightC a b c d e) (hd : 0 ≤ d) {k : Nat} (hk : 600 ≤ k) : frame_ReadControl.f k (shut (bodyC a b c d e)) = some (a, b, c, d, e, 0) := by
  have hl : (shut (bodyC a b c d e)).length = 34 := by rw [shut_length, bodyC_length]
  have hb := shut_bytes (bodyC_bytes a b c d e)
  have h' := h
  unfold rightC at h'
  have e0 : shut (bodyC a b c d e) = [137, 29, a % 256, b % 256] ++ (be 8 c ++ (be 4 d ++ (be 8 e ++ (be 6 0 ++ be 4 (crc (bodyC a b c d e)))))) := by
    unfold shut
    conv => lhs; lhs; unfold bodyC
    simp only [List.append_assoc]
  have s1 : ((shut (bodyC a b c d e)).take 12).drop 4 = be 8 c := seg _ _ _ e0 rfl (by simp [be_length])
  have s2 : ((shut (bodyC a b c d e)).take 16).drop 12 = be 4 d := seg ([137, 29, a % 256, b % 256] ++ be 8 c) (be 4 d) _ (by rw [e0, List.append_assoc]) (by simp [be_length]) (by simp [be_length])
  have s3 : ((shut (bodyC a b c d e)).take 24).drop 16 = be 8 e := seg ([137, 29, a % 256, b % 256] ++ (be 8 c ++ be 4 d)) (be 8 e) (be 6 0 ++ be 4 (crc (bodyC a b c d e))) (by rw [e0]; simp only [List.append_assoc]) (by simp [be_length]) (by simp [be_length])
  have s4 : ((shut (bodyC a b c d e)).take 30).drop 24 = be 6 0 := seg ([137, 29, a % 256, b % 256] ++ (be 8 c ++ (be 4 d ++ be 8 e))) (be 6 0) (be 4 (crc (bodyC a b c d e))) (by rw [e0]; simp only [List.append_assoc]) (by simp [be_length]) (by simp [be_length])
  have s5 : (shut (bodyC a b c d e)).take 2 = [137, 29] := by rw [e0]; rfl
  have r2 : rd (shut (bodyC a b c d e)) 2 = a % 256 := by rw [e0]; rfl
  have r3 : rd (shut (bodyC a b c d e)) 3 = b % 256 := by rw [e0]; rfl
  have hopen := open_shut (bodyC_bytes a b c d e) (by rw [bodyC_length]; omega) (k := k - 1) (by rw [bodyC_length]; omega)
  obtain ⟨q, rfl⟩ : ∃ q, k = q + 2 := ⟨k - 2, by omega⟩
  generalize shut (bodyC a b c d e) = l at *
  unfold frame_ReadControl.f
  rw [if_pos (by omega), which_eq hb (by omega) (by omega), Option.bind_some, s5, if_pos (by decide)]
  rw [frame_ReadControl.j0, if_neg (by decide), show q + 2 - 1 = q + 1 from by omega] at *
  rw [hopen, Option.bind_some, if_pos rfl, if_pos (by omega), s1, getn (be_bytes _ _) (by rw [be_length]; omega) (by omega), Option.bind_some, val_be 8 c (by omega) (by omega)]
  rw [if_pos (by omega), s3, getn (be_bytes _ _) (by rw [be_length]; omega) (by omega), Option.bind_some, val_be 8 e (by omega) (by omega)]
  rw [if_neg (by omega), if_neg (by omega), if_pos (by omega), s4, getn (be_bytes _ _) (by rw [be_length]; omega) (by omega), Option.bind_some, val_be 6 0 (by omega) (by omega)]
  rw [frame_ReadControl.j1, if_neg (by decide), if_pos (by omega), if_pos (by omega), if_pos (by omega), s2, getn (be_bytes _ _) (by rw [be_length]; omega) (by omega), Option.bind_some, val_be 4 d (by omega) (by omega), r2, r3]
  rw [wrap_id (by omega) (by omega), wrap_id (by omega) (by omega), wrap_id (by omega) (by omega), wrap_id (by omega) (by omega), rightControl_eq, show a % 256 = a from by omega, show b % 256 = b from by omega, show d % 4294967296 = d from by omega, decide_eq_true h, Option.bind_some, if_pos rfl]
end Go.Proofs.Ytgeheedfmdlefaa.Pure
