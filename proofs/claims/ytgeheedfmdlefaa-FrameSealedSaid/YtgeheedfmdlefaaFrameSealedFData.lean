/- What a data frame is written as. -/
import Derived.Test.YtgeheedfmdlefaaFrameSealedFns1
import Derived.Test.YtgeheedfmdlefaaFrameSealedFCrc
namespace Go.Proofs.Ytgeheedfmdlefaa.Pure
open Go.RowKit Go.Proofs.Ytgeheedfmdlefaa.PF Go.Proofs.YtgeheedfmdlefaaW.PrintWords Go.Proofs.YtgeheedfmdlefaaW.PrintLast Go.Proofs.YtgeheedfmdlefaaW.PrintMore
set_option linter.unusedVariables false

theorem within_eq (a b c : Int) : frame_within.f a b c = some (decide (b ≤ a ∧ a ≤ c)) := by
  unfold frame_within.f
  split
  · exact congrArg some (decide_eq_decide.2 (by omega))
  · exact congrArg some (decide_eq_false (by omega)).symm

def rightD (c l n z s : Int) : Prop := 1 ≤ c ∧ c ≤ 3 ∧ 0 ≤ l ∧ l ≤ 255 ∧ 0 ≤ n ∧ n ≤ 2147483647 ∧ 64 ≤ s ∧ s ≤ 1518 ∧ z ≤ s - 14
instance (c l n z s : Int) : Decidable (rightD c l n z s) := by unfold rightD; infer_instance
theorem rightData_eq (c l n : Int) (p : ByteArray) (s : Int) : frame_rightData.f c l n p s = some (decide (rightD c l n p.size s)) := by
  unfold frame_rightData.f
  simp only [within_eq, Option.bind_some, decide_eq_true_eq]
  split
  · split
    · split
      · split
        · rw [wrap_id (x := s - 10) (by omega) (by omega), wrap_id (by omega) (by omega)]
          exact congrArg some (decide_eq_decide.2 (by unfold rightD; omega))
        · exact congrArg some (decide_eq_false (by unfold rightD; omega)).symm
      · exact congrArg some (decide_eq_false (by unfold rightD; omega)).symm
    · exact congrArg some (decide_eq_false (by unfold rightD; omega)).symm
  · exact congrArg some (decide_eq_false (by unfold rightD; omega)).symm

theorem bytes_bytesOf (p : ByteArray) : Bytes (bytesOf p) := by
  intro x hx
  unfold bytesOf at hx
  obtain ⟨u, _, rfl⟩ := List.mem_map.1 hx
  have := u.toNat_lt
  omega
theorem strOfNums_bytesOf (p : ByteArray) : strOfNums (bytesOf p) = p := by
  unfold strOfNums bytesOf
  rw [List.map_map]
  have : ((fun n : Int => UInt8.ofNat n.toNat) ∘ fun b : UInt8 => (b.toNat : Int)) = id := funext fun b => by simp
  rw [this, List.map_id]
theorem bytes_zeros (n : Nat) : Bytes (List.replicate n 0) := by
  intro x hx
  rw [(List.mem_replicate.1 hx).2]
  omega
theorem put2 {l : List Int} {v : Int} (h0 : 0 ≤ v) (h1 : v < 18446744073709551616) (hl : l.length < 140737488355000) {k : Nat} (hk : 9 ≤ k) : frame_put.f k l v 2 = some (l ++ be 2 v) := put_eq (n := 2) h0 h1 (by omega) (by omega) hk
theorem put4 {l : List Int} {v : Int} (h0 : 0 ≤ v) (h1 : v < 18446744073709551616) (hl : l.length < 140737488355000) {k : Nat} (hk : 9 ≤ k) : frame_put.f k l v 4 = some (l ++ be 4 v) := put_eq (n := 4) h0 h1 (by omega) (by omega) hk
theorem put6 {l : List Int} {v : Int} (h0 : 0 ≤ v) (h1 : v < 18446744073709551616) (hl : l.length < 140737488355000) {k : Nat} (hk : 9 ≤ k) : frame_put.f k l v 6 = some (l ++ be 6 v) := put_eq (n := 6) h0 h1 (by omega) (by omega) hk
theorem put8 {l : List Int} {v : Int} (h0 : 0 ≤ v) (h1 : v < 18446744073709551616) (hl : l.length < 140737488355000) {k : Nat} (hk : 9 ≤ k) : frame_put.f k l v 8 = some (l ++ be 8 v) := put_eq (n := 8) h0 h1 (by omega) (by omega) hk

def headD (c l n : Int) (p : ByteArray) : List Int := [8, 0, c % 256, l % 256] ++ be 4 n ++ be 2 p.size ++ bytesOf p
theorem headD_length (c l n : Int) (p : ByteArray) : (headD c l n p).length = 10 + p.size := by
  unfold headD
  simp only [List.length_append, be_length, bytesOf_length, List.length_cons, List.length_nil]
theorem headD_bytes (c l n : Int) (p : ByteArray) : Bytes (headD c l n p) := by
  unfold headD
  refine Bytes.append (Bytes.append (Bytes.append ?_ (be_bytes _ _)) (be_bytes _ _)) (bytes_bytesOf p)
  intro x hx
  simp only [List.mem_cons, List.not_mem_nil, or_false] at hx
  rcases hx with rfl | rfl | rfl | rfl <;> omega
def bodyD (c l n : Int) (p : ByteArray) (s : Int) : List Int := headD c l n p ++ List.replicate (s - 14 - p.size).toNat 0
theorem bodyD_length {c l n : Int} {p : ByteArray} {s : Int} (h : rightD c l n p.size s) : ((bodyD c l n p s).length : Int) = s - 4 := by
  unfold bodyD
  rw [List.length_append, headD_length, List.length_replicate]
  unfold rightD at h
  omega
theorem bodyD_bytes (c l n : Int) (p : ByteArray) (s : Int) : Bytes (bodyD c l n p s) := Bytes.append (headD_bytes c l n p) (bytes_zeros _)
theorem data_eq {c l n : Int} {p : ByteArray} {s : Int} (h : rightD c l n p.size s) {k : Nat} (hk : 16000 ≤ k) : frame_Data.f k c l n p s = some (shut (bodyD c l n p s), 0) := by
  have hl := bodyD_length h
  have hb := bodyD_bytes c l n p s
  have hh := headD_length c l n p
  unfold frame_Data.f
  rw [rightData_eq, Option.bind_some, decide_eq_true h, if_pos rfl]
  have h' := h
  unfold rightD at h'
  have hz : p.size ≤ 1504 := by omega
  rw [wrapu_id (by omega) (by omega), put4 (by omega) (by omega) (by simp) (by omega), Option.bind_some]
  rw [wrapu_id (by omega) (by omega), put2 (by omega) (by omega) (by simp [be_length]) (by omega), Option.bind_some]
  rw [if_pos (by simp only [List.length_append, be_length, List.length_cons, List.length_nil]; omega), Option.bind_some]
  have e : [8, 0, c % 256, l % 256] ++ be 4 n ++ be 2 (p.size : Int) ++ bytesOf p = headD c l n p := rfl
  rw [e, hh, wrap_id (x := s - 4) (by omega) (by omega), wrap_id (by omega) (by omega), if_pos (by omega), if_pos (by omega)]
  have e2 : (s - 4 - ((10 + p.size : Nat) : Int)).toNat = (s - 14 - p.size).toNat := by omega
  rw [e2]
  have e3 : headD c l n p ++ List.replicate (s - 14 - p.size).toNat 0 = bodyD c l n p s := rfl
  rw [e3, sealed_eq hb (by omega) (by omega)]
  rfl
theorem data_no {c l n : Int} {p : ByteArray} {s : Int} (h : ¬ rightD c l n p.size s) (k : Nat) : frame_Data.f k c l n p s = some ([], 1) := by
  unfold frame_Data.f
  rw [rightData_eq, Option.bind_some, decide_eq_false h, if_neg (by simp)]
theorem shut_length (l : List Int) : (shut l).length = l.length + 4 := by
  unfold shut
  rw [List.length_append, be_length]
theorem shut_bytes {l : List Int} (h : Bytes l) : Bytes (shut l) := Bytes.append h (be_bytes _ _)
end Go.Proofs.Ytgeheedfmdlefaa.Pure
