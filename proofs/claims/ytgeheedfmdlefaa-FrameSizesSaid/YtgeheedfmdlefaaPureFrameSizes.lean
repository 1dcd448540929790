import Derived.Test.YtgeheedfmdlefaaPFx32
import Derived.Test.YtgeheedfmdlefaaFFix
import Derived.Test.YtgeheedfmdlefaaFData
namespace Go.Proofs.Ytgeheedfmdlefaa.Pure
open Go.RowKit Go.Proofs.Ytgeheedfmdlefaa.PF Go.Proofs.YtgeheedfmdlefaaW.PrintWords Go.Proofs.YtgeheedfmdlefaaW.PrintLast Go.Proofs.YtgeheedfmdlefaaW.PrintMore

theorem sizes_loop (n : Int) (h0 : 64 ≤ n) (h1 : n ≤ 1518) (z : Nat) (k : Nat) : ∀ (d i : Nat), i + d = z → z < 9223372036854775807 → tocsinlaw06_FrameSizes.l0 (k + d + 1) n (List.replicate z 0) (z : Int) (i : Int) = some true := by
  intro d
  induction d with
  | zero =>
    intro i hi hz
    rw [tocsinlaw06_FrameSizes.l0, if_neg (by omega)]
    unfold frame_Time.f mn mx
    rw [if_neg (by omega), if_neg (by omega), wrap_id (by omega) (by omega)]
    simp
  | succ d ih =>
    intro i hi hz
    have ih' := ih (i + 1) (by omega) hz
    rw [show k + (d + 1) + 1 = (k + d + 1) + 1 from by omega]
    generalize k + d + 1 = q at ih' ⊢
    rw [tocsinlaw06_FrameSizes.l0, if_pos (by omega), if_pos (by omega), if_pos (by rw [List.length_replicate]; omega), rd_nat (by rw [List.length_replicate]; omega), List.getElem_replicate, if_pos rfl,
      wrap_id (by omega) (by omega), show ((i : Int) + 1) = ((i + 1 : Nat) : Int) from by omega]
    exact ih'
theorem FrameSizes : tocsinlaw06_FrameSizes.Pure := by
  intro a0 a1 w0 w1
  have hw : 0 ≤ a1 ∧ a1 ≤ 65535 := by
    simp [Lit.wf, IntKind.min, IntKind.max, IntKind.bits, IntKind.signed] at w1
    omega
  refine ⟨20000, ?_⟩
  unfold tocsinlaw06_FrameSizes.f
  rw [fixed_true (by omega), Option.bind_some, if_pos rfl]
  have e1 : Int.tmod (wrap64 a1) 1455 = a1 % 1455 := by
    rw [wrap_id (by omega) (by omega), Int.tmod_eq_emod_of_nonneg (by omega)]
  rw [e1, wrap_id (x := 64 + a1 % 1455) (by omega) (by omega), wrap_id (x := 64 + a1 % 1455 - 14) (by omega) (by omega)]
  obtain ⟨n, hn⟩ : ∃ n, n = 64 + a1 % 1455 := ⟨_, rfl⟩
  rw [← hn]
  have hn0 : 64 ≤ n := by omega
  have hn1 : n ≤ 1518 := by omega
  clear hn e1 hw w1
  obtain ⟨z, hz⟩ : ∃ z, z = mn (a0.size : Int) (n - 14) := ⟨_, rfl⟩
  have hz' : 0 ≤ z ∧ z ≤ a0.size ∧ z ≤ n - 14 := by
    unfold mn at hz
    split at hz <;> omega
  rw [← hz, if_pos (by omega), if_pos (by omega)]
  obtain ⟨p, hp⟩ : ∃ p, p = a0.extract 0 z.toNat := ⟨_, rfl⟩
  have hps : (p.size : Int) = z := by rw [hp, ByteArray.size_extract]; omega
  rw [← hp]
  have hR : rightD 3 3 0 p.size n := by unfold rightD; omega
  have hbl := bodyD_length hR
  have hsl := shut_length (bodyD 3 3 0 p n)
  rw [data_eq hR (by omega), Option.bind_some, if_pos rfl]
  dsimp only
  rw [if_pos (by omega), wrap_id (by omega) (by omega), if_pos (by omega), if_pos (by omega)]
  have e2 : ((shut (bodyD 3 3 0 p n)).take (10 + (p.size : Int)).toNat).drop 10 = bytesOf p := by
    have : shut (bodyD 3 3 0 p n) = ([8, 0, 3 % 256, 3 % 256] ++ be 4 0 ++ be 2 (p.size : Int)) ++ (bytesOf p ++ (List.replicate (n - 14 - p.size).toNat 0 ++ be 4 (crc (bodyD 3 3 0 p n)))) := by
      unfold shut
      conv => lhs; lhs; unfold bodyD headD
      simp only [List.append_assoc]
    rw [this, ← List.append_assoc, List.take_left' (by simp only [List.length_append, be_length, bytesOf_length, List.length_cons, List.length_nil]; omega), List.drop_left' (by simp [be_length])]
  have e3 : ((shut (bodyD 3 3 0 p n)).take (n - 4).toNat).drop (10 + (p.size : Int)).toNat = List.replicate (n - 14 - p.size).toNat 0 := by
    unfold shut
    rw [List.take_left' (by omega)]
    unfold bodyD
    rw [List.drop_left' (by rw [headD_length]; omega)]
  rw [e2, strOfNums_bytesOf]
  rw [show (p.toList != p.toList) = false from by simp]
  rw [show (20000 : Nat) = (19999) + 1 from rfl, tocsinlaw06_FrameSizes.j0, if_neg (by simp), wrap_id (x := n - 4) (by omega) (by omega), wrap_id (by omega) (by omega), if_pos (by omega), if_pos (by omega), if_pos (by omega), Option.bind_some, e3, List.length_replicate]
  obtain ⟨q, hq⟩ : ∃ q, 19999 = q + (n - 14 - p.size).toNat + 1 := ⟨19998 - (n - 14 - p.size).toNat, by omega⟩
  rw [hq]
  exact sizes_loop n hn0 hn1 _ q _ 0 (by omega) (by omega)
end Go.Proofs.Ytgeheedfmdlefaa.Pure
