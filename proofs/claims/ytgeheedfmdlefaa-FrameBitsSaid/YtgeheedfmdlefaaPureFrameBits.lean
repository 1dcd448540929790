import Derived.Test.YtgeheedfmdlefaaPFx30
import Derived.Test.YtgeheedfmdlefaaFFix
import Derived.Test.YtgeheedfmdlefaaFBits
namespace Go.Proofs.Ytgeheedfmdlefaa.Pure
open Go.RowKit Go.Proofs.Ytgeheedfmdlefaa.PF Go.Proofs.YtgeheedfmdlefaaW.PrintWords Go.Proofs.YtgeheedfmdlefaaW.PrintLast Go.Proofs.YtgeheedfmdlefaaW.PrintMore

theorem readControl_no {l : List Int} (hb : Bytes l) (hl : l.length = 34) {k : Nat} (hk : 600 ≤ k) (ho : ∀ q, 500 ≤ q → frame_open.f q l = some false) : ∃ e : Int, e ≠ 0 ∧ frame_ReadControl.f k l = some (0, 0, 0, 0, 0, e) := by
  obtain ⟨q, rfl⟩ : ∃ q, k = q + 1 := ⟨k - 1, by omega⟩
  unfold frame_ReadControl.f
  rw [if_pos (by omega), which_eq hb (by omega) (by omega), Option.bind_some, frame_ReadControl.j0, ho q (by omega)]
  generalize ((if val (l.take 2) = 35101 then 1 else if val (l.take 2) = 2048 then 2 else 0 : Int) != 1) = bb
  cases bb
  · exact ⟨8, by decide, rfl⟩
  · exact ⟨2, by decide, rfl⟩
theorem readData_no {l : List Int} (hb : Bytes l) (h0 : 64 ≤ l.length) (h1 : l.length ≤ 1518) {k : Nat} (hk : 20000 ≤ k) (ho : ∀ q, 19000 ≤ q → frame_open.f q l = some false) : ∃ e : Int, e ≠ 0 ∧ frame_ReadData.f k l = some (0, 0, 0, (⟨#[]⟩ : ByteArray), 0, e) := by
  obtain ⟨q, rfl⟩ : ∃ q, k = q + 1 := ⟨k - 1, by omega⟩
  unfold frame_ReadData.f
  rw [if_neg (by omega), if_neg (by omega), which_eq hb (by omega) (by omega), Option.bind_some, frame_ReadData.j0, ho q (by omega)]
  generalize ((if val (l.take 2) = 35101 then 1 else if val (l.take 2) = 2048 then 2 else 0 : Int) != 2) = bb
  cases bb
  · exact ⟨8, by decide, rfl⟩
  · exact ⟨2, by decide, rfl⟩
/-- The bit that the law turns: where it stands, and what becomes of its byte. -/
theorem turned {l : List Int} (hb : Bytes l) {n : Nat} (hn : l.length = n) (h0 : 1 ≤ n) (h1 : n ≤ 2000) (x : Int) :
    ∃ (i : Nat) (v : Int) (hi : i < l.length), IntKind.u64.wrap (wrap64 (8 * (l.length : Int))) ≠ 0 ∧
      wrap64 (Int.tdiv (wrap64 (Int.tmod (IntKind.u64.wrap x) (IntKind.u64.wrap (wrap64 (8 * (l.length : Int)))))) 8) = (i : Int) ∧
      0 ≤ IntKind.u64.wrap (Int.tmod (wrap64 (Int.tmod (IntKind.u64.wrap x) (IntKind.u64.wrap (wrap64 (8 * (l.length : Int)))))) 8) ∧
      Go.bits .xor .u8 (rd l (i : Int)) (shl .u8 1 (IntKind.u64.wrap (Int.tmod (wrap64 (Int.tmod (IntKind.u64.wrap x) (IntKind.u64.wrap (wrap64 (8 * (l.length : Int)))))) 8))) = v ∧ 0 ≤ v ∧ v ≤ 255 ∧ v ≠ l[i] := by
  have e1 : IntKind.u64.wrap (wrap64 (8 * (l.length : Int))) = 8 * (l.length : Int) := by
    rw [wrap_id (by omega) (by omega), wrapu_id (by omega) (by omega)]
  rw [e1]
  have hu : 0 ≤ IntKind.u64.wrap x := by
    rw [IntKind.wrap_u64]
    omega
  generalize IntKind.u64.wrap x = y at hu
  obtain ⟨t, ht, ht1⟩ : ∃ t : Nat, Int.tmod y (8 * (l.length : Int)) = (t : Int) ∧ t < 8 * l.length := by
    rw [Int.tmod_eq_emod_of_nonneg hu]
    have h2 := Int.emod_nonneg y (b := 8 * (l.length : Int)) (by omega)
    have h3 := Int.emod_lt_of_pos y (b := 8 * (l.length : Int)) (by omega)
    exact ⟨(y % (8 * (l.length : Int))).toNat, by omega, by omega⟩
  rw [ht, wrap_id (x := (t : Int)) (by omega) (by omega), Int.tdiv_eq_ediv_of_nonneg (by omega), Int.tmod_eq_emod_of_nonneg (by omega), wrapu_id (x := (t : Int) % 8) (by omega) (by omega), wrap_id (by omega) (by omega)]
  have hi : t / 8 < l.length := by omega
  have hr := hb l[t / 8] (List.getElem_mem _)
  refine ⟨t / 8, _, hi, by omega, by omega, by omega, rfl, ?_⟩
  rw [show ((t / 8 : Nat) : Int) = ((t / 8 : Nat) : Int) from rfl, rd_nat hi]
  obtain ⟨j, hj, hj8⟩ : ∃ j : Nat, (t : Int) % 8 = (j : Int) ∧ j < 8 := ⟨t % 8, by omega, by omega⟩
  have hs : shl .u8 1 ((t : Int) % 8) = ((2 ^ j : Nat) : Int) ∧ 2 ^ j < 256 ∧ 0 < 2 ^ j := by
    rw [hj]
    rcases (show j = 0 ∨ j = 1 ∨ j = 2 ∨ j = 3 ∨ j = 4 ∨ j = 5 ∨ j = 6 ∨ j = 7 from by omega) with h | h | h | h | h | h | h | h <;> subst h <;> decide
  rw [hs.1, u8_xor _ _ hr.1 (by omega) (by omega) (by omega)]
  generalize 2 ^ j = z at hs
  rw [show ((z : Nat) : Int).toNat = z from by omega]
  have hx : l[t / 8].toNat ^^^ z < 256 := Nat.xor_lt_two_pow (n := 8) (by omega) (by omega)
  refine ⟨by omega, by omega, fun e => ?_⟩
  have e2 : l[t / 8].toNat ^^^ z = l[t / 8].toNat ^^^ 0 := by
    rw [Nat.xor_zero]
    omega
  have := xor_inj' e2
  omega
theorem bits_j0 (x c l n : Int) (p : ByteArray) (s : Int) {k : Nat} (hk : 30000 ≤ k) : tocsinlaw06_FrameBits.j0 k x c l n p s = some true := by
  obtain ⟨q, rfl⟩ : ∃ q, k = q + 1 := ⟨k - 1, by omega⟩
  rw [tocsinlaw06_FrameBits.j0]
  by_cases h : rightD c l n p.size s
  · have hbl := bodyD_length h
    have hsl := shut_length (bodyD c l n p s)
    have h' := h
    unfold rightD at h'
    have hbb := bodyD_bytes c l n p s
    rw [data_eq h (by omega), Option.bind_some, if_pos rfl]
    dsimp only
    obtain ⟨i, v, hi, e1, e2, e3, e4, h0, h1, hv⟩ := turned (shut_bytes hbb) rfl (by omega) (by omega) x
    rw [if_neg e1, if_pos (by rw [e2]; omega), if_pos (by rw [e2]; omega), if_pos e3, e2, e4, show ((i : Int)).toNat = i from by omega]
    obtain ⟨e, he, hf⟩ := readData_no (l := (shut (bodyD c l n p s)).set i v) (bytes_set (shut_bytes hbb) h0 h1 i) (by rw [List.length_set]; omega) (by rw [List.length_set]; omega) (k := q) (by omega) (fun q hq => open_set hbb (by omega) h0 h1 hi hv (by omega))
    rw [hf, Option.bind_some, if_neg he, if_neg (by simp)]
  · rw [data_no h, Option.bind_some, if_neg (by decide)]
theorem FrameBits : tocsinlaw06_FrameBits.Pure := by
  intro a b c d e c' l' n' p' s' x _ _ _ hd _ _ _ _ _ _ _
  have hd := (wf_u32 hd).1
  refine ⟨30000, ?_⟩
  unfold tocsinlaw06_FrameBits.f
  rw [fixed_true (by omega), Option.bind_some, if_pos rfl]
  by_cases h : rightC a b c d e
  · have hbl := bodyC_length a b c d e
    have hsl := shut_length (bodyC a b c d e)
    have hbb := bodyC_bytes a b c d e
    rw [control_eq h hd (by omega), Option.bind_some, if_pos rfl]
    dsimp only
    obtain ⟨i, v, hi, e1, e2, e3, e4, h0, h1, hv⟩ := turned (shut_bytes hbb) rfl (by omega) (by omega) x
    rw [if_neg e1, if_pos (by rw [e2]; omega), if_pos (by rw [e2]; omega), if_pos e3, e2, e4, show ((i : Int)).toNat = i from by omega]
    obtain ⟨e, he, hf⟩ := readControl_no (l := (shut (bodyC a b c d e)).set i v) (bytes_set (shut_bytes hbb) h0 h1 i) (by rw [List.length_set]; omega) (k := 30000) (by omega) (fun q hq => open_set hbb (by omega) h0 h1 hi hv (by omega))
    rw [hf, Option.bind_some, if_neg he, if_neg (by simp)]
    exact bits_j0 _ _ _ _ _ _ (by omega)
  · rw [control_no h, Option.bind_some, if_neg (by decide)]
    exact bits_j0 _ _ _ _ _ _ (by omega)
end Go.Proofs.Ytgeheedfmdlefaa.Pure
