/- A data frame is read again as it was written. -/
import Derived.Test.YtgeheedfmdlefaaFrameSealedFns1
import Derived.Test.YtgeheedfmdlefaaFrameSealedFControl
namespace Go.Proofs.Ytgeheedfmdlefaa.Pure
open Go.RowKit Go.Proofs.Ytgeheedfmdlefaa.PF Go.Proofs.YtgeheedfmdlefaaW.PrintWords Go.Proofs.YtgeheedfmdlefaaW.PrintLast Go.Proofs.YtgeheedfmdlefaaW.PrintMore
set_option linter.unusedVariables false

theorem zeros_loop (x0 : List Int) (x4 x5 : Int) (t : List Int) (ht : t.length < 140737488355328) (k : Nat) : ∀ (d i : Nat), i + d = t.length → (∀ x ∈ t.drop i, x = 0) →
    frame_ReadData.l0 (k + d + 1) x0 x4 x5 t (t.length : Int) (i : Int) = frame_ReadData.l0 (k + 1) x0 x4 x5 t (t.length : Int) (t.length : Int) := by
  intro d
  induction d with
  | zero =>
    intro i hi _
    rw [show i = t.length from by omega]
  | succ d ih =>
    intro i hi hz
    have hlt : i < t.length := by omega
    rw [List.drop_eq_getElem_cons hlt] at hz
    have ih' := ih (i + 1) (by omega) (fun x hx => hz x (List.mem_cons_of_mem _ hx))
    have h0 := hz t[i] (List.mem_cons_self ..)
    rw [show k + (d + 1) + 1 = (k + d + 1) + 1 from by omega]
    generalize k + d + 1 = q at ih' ⊢
    conv => lhs; rw [frame_ReadData.l0]
    rw [if_pos (by omega), if_pos (by omega), if_pos (by omega), rd_nat hlt, if_pos h0, wrap_id (by omega) (by omega), show ((i : Int) + 1) = ((i + 1 : Nat) : Int) from by omega]
    exact ih'
theorem nonzero_loop (x0 : List Int) (x4 x5 : Int) (t : List Int) (ht : t.length < 140737488355328) (k : Nat) : ∀ (d i : Nat), i + d = t.length → ¬ (∀ x ∈ t.drop i, x = 0) →
    frame_ReadData.l0 (k + d + 1) x0 x4 x5 t (t.length : Int) (i : Int) = some (0, 0, 0, (⟨#[]⟩ : ByteArray), 0, 2) := by
  intro d
  induction d with
  | zero =>
    intro i hi hz
    rw [List.drop_of_length_le (by omega)] at hz
    exact absurd (fun x hx => absurd hx (List.not_mem_nil)) hz
  | succ d ih =>
    intro i hi hz
    have hlt : i < t.length := by omega
    rw [List.drop_eq_getElem_cons hlt] at hz
    rw [show k + (d + 1) + 1 = (k + d + 1) + 1 from by omega]
    rw [frame_ReadData.l0, if_pos (by omega), if_pos (by omega), if_pos (by omega), rd_nat hlt, wrap_id (by omega) (by omega), show ((i : Int) + 1) = ((i + 1 : Nat) : Int) from by omega]
    by_cases h0 : t[i] = 0
    · rw [if_pos h0]
      refine ih (i + 1) (by omega) (fun hh => hz fun x hx => ?_)
      rcases List.mem_cons.1 hx with rfl | hx
      · exact h0
      · exact hh x hx
    · rw [if_neg h0]

theorem readData_back {c l n : Int} {p : ByteArray} {s : Int} (h : rightD c l n p.size s) {k : Nat} (hk : 20000 ≤ k) : frame_ReadData.f k (shut (bodyD c l n p s)) = some (c, l, n, p, s, 0) := by
  have hbl := bodyD_length h
  have hl : ((shut (bodyD c l n p s)).length : Int) = s := by rw [shut_length]; omega
  have hb := shut_bytes (bodyD_bytes c l n p s)
  have h' := h
  unfold rightD at h'
  have e0 : shut (bodyD c l n p s) = [8, 0, c % 256, l % 256] ++ (be 4 n ++ (be 2 (p.size : Int) ++ (bytesOf p ++ (List.replicate (s - 14 - p.size).toNat 0 ++ be 4 (crc (bodyD c l n p s)))))) := by
    unfold shut
    conv => lhs; lhs; unfold bodyD headD
    simp only [List.append_assoc]
  have s1 : ((shut (bodyD c l n p s)).take 8).drop 4 = be 4 n := seg _ _ _ e0 rfl (by simp [be_length])
  have s2 : ((shut (bodyD c l n p s)).take 10).drop 8 = be 2 (p.size : Int) := seg ([8, 0, c % 256, l % 256] ++ be 4 n) (be 2 (p.size : Int)) (bytesOf p ++ (List.replicate (s - 14 - p.size).toNat 0 ++ be 4 (crc (bodyD c l n p s)))) (by rw [e0]; simp only [List.append_assoc]) (by simp [be_length]) (by simp [be_length])
  have s3 : ((shut (bodyD c l n p s)).take (10 + (p.size : Int)).toNat).drop 10 = bytesOf p := seg ([8, 0, c % 256, l % 256] ++ (be 4 n ++ be 2 (p.size : Int))) (bytesOf p) (List.replicate (s - 14 - p.size).toNat 0 ++ be 4 (crc (bodyD c l n p s))) (by rw [e0]; simp only [List.append_assoc]) (by simp [be_length]) (by simp only [List.length_append, be_length, bytesOf_length, List.length_cons, List.length_nil]; omega)
  have s4 : ((shut (bodyD c l n p s)).take (s - 4).toNat).drop (10 + (p.size : Int)).toNat = List.replicate (s - 14 - p.size).toNat 0 := by
    unfold shut
    rw [List.take_left' (by omega)]
    unfold bodyD
    rw [List.drop_left' (by rw [headD_length]; omega)]
  have s5 : (shut (bodyD c l n p s)).take 2 = [8, 0] := by rw [e0]; rfl
  have r2 : rd (shut (bodyD c l n p s)) 2 = c % 256 := by rw [e0]; rfl
  have r3 : rd (shut (bodyD c l n p s)) 3 = l % 256 := by rw [e0]; rfl
  have hopen := open_shut (bodyD_bytes c l n p s) (by omega) (k := k - 1) (by omega)
  obtain ⟨q, rfl⟩ : ∃ q, k = q + 2 := ⟨k - 2, by omega⟩
  generalize shut (bodyD c l n p s) = m at *
  unfold frame_ReadData.f
  rw [if_neg (by omega), if_neg (by omega), which_eq hb (by omega) (by omega), Option.bind_some, s5, if_neg (by decide), if_pos (by decide)]
  rw [frame_ReadData.j0, if_neg (by decide), show q + 2 - 1 = q + 1 from by omega] at *
  rw [hopen, Option.bind_some, if_pos rfl, if_pos (by omega), s1, getn (be_bytes _ _) (by rw [be_length]; omega) (by omega), Option.bind_some, val_be 4 n (by omega) (by omega)]
  rw [if_pos (by omega), s2, getn (be_bytes _ _) (by rw [be_length]; omega) (by omega), Option.bind_some, val_be 2 (p.size : Int) (by omega) (by omega), if_neg (by omega)]
  rw [wrap_id (x := (p.size : Int)) (by omega) (by omega), hl, wrap_id (x := s - 10) (by omega) (by omega), wrap_id (x := s - 10 - 4) (by omega) (by omega)]
  rw [show decide ((p.size : Int) > s - 10 - 4) = false from decide_eq_false (by omega), frame_ReadData.j1, if_neg (by decide), hl, wrap_id (x := 10 + (p.size : Int)) (by omega) (by omega), wrap_id (x := s - 4) (by omega) (by omega), if_pos (by omega), if_pos (by omega), if_pos (by omega), s4, Option.bind_some]
  obtain ⟨z, hz⟩ : ∃ z, z = (s - 14 - p.size).toNat := ⟨_, rfl⟩
  rw [← hz]
  have hzl := zeros_loop m n (p.size : Int) (List.replicate z 0) (by rw [List.length_replicate]; omega) (q - z - 1) z 0 (by rw [List.length_replicate]; omega) (by intro x hx; exact (List.mem_replicate.1 hx).2)
  rw [show q - z - 1 + z + 1 = q from by omega] at hzl
  refine hzl.trans ?_
  rw [frame_ReadData.l0, if_neg (by omega), if_pos (by omega), if_pos (by omega), wrap_id (x := 10 + (p.size : Int)) (by omega) (by omega), if_pos (by omega), if_pos (by omega), s3, Option.bind_some, r2, r3, strOfNums_bytesOf, hl]
  rw [show c % 256 = c from by omega, show l % 256 = l from by omega, wrap_id (by omega) (by omega), wrap_id (by omega) (by omega), wrap_id (by omega) (by omega), rightData_eq, decide_eq_true h, Option.bind_some, if_pos rfl]
end Go.Proofs.Ytgeheedfmdlefaa.Pure
