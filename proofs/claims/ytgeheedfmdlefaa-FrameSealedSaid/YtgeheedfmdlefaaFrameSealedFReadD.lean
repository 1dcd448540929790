/- Reading a data frame: the program's answer and the document's are one. -/
import Derived.Test.YtgeheedfmdlefaaFrameSealedFns4
import Derived.Test.YtgeheedfmdlefaaFrameSealedFReadC
namespace Go.Proofs.Ytgeheedfmdlefaa.Pure
open Go.RowKit Go.Proofs.Ytgeheedfmdlefaa.PF Go.Proofs.YtgeheedfmdlefaaW.PrintWords Go.Proofs.YtgeheedfmdlefaaW.PrintLast Go.Proofs.YtgeheedfmdlefaaW.PrintMore
set_option linter.unusedVariables false

theorem bytesOf_strOfNums {l : List Int} (h : Bytes l) : bytesOf (strOfNums l) = l := by
  unfold bytesOf
  rw [strOfNums_data, List.map_map]
  have : ∀ x ∈ l, ((fun b : UInt8 => (b.toNat : Int)) ∘ fun n : Int => UInt8.ofNat n.toNat) x = x := by
    intro x hx
    have := h x hx
    show ((UInt8.ofNat x.toNat).toNat : Int) = x
    rw [UInt8.toNat_ofNat', Nat.mod_eq_of_lt (by omega)]
    omega
  rw [List.map_congr_left this]
  simp
theorem zero_dec (t : List Int) : (∀ x ∈ t, x = 0) ↔ t = List.replicate t.length 0 := by
  constructor
  · intro h
    exact List.eq_replicate_iff.2 ⟨rfl, h⟩
  · intro h x hx
    rw [h] at hx
    exact (List.mem_replicate.1 hx).2
theorem readData_both {l : List Int} (hb : Bytes l) (hl : l.length < 140737488355328) {k : Nat} (hk : 10 * l.length + 30000 ≤ k) :
    ∃ (a b c : Int) (p : ByteArray) (s n : Int), frame_ReadData.f k l = some (a, b, c, p, s, n) ∧ rf_ReadData.f k l = some (a, b, c, p, s, n) ∧ (n = 0 → rightD a b c p.size s ∧ l = shut (bodyD a b c p s)) ∧ (n = 8 → ∃ b E, l = b ++ E ∧ E.length = 4 ∧ ¬ (val E == crc b) = true) := by
  obtain ⟨q, rfl⟩ : ∃ q, k = q + 2 := ⟨k - 2, by omega⟩
  by_cases hlo : (l.length : Int) < 64
  · refine ⟨0, 0, 0, ⟨#[]⟩, 0, 2, ?_, ?_, fun h => absurd h (by decide), fun h => absurd h (by decide)⟩
    · unfold frame_ReadData.f
      rw [if_pos hlo, frame_ReadData.j0, if_pos rfl]
    · unfold rf_ReadData.f
      rw [if_pos hlo, rf_ReadData.j0, if_pos rfl]
  by_cases hhi : (l.length : Int) > 1518
  · refine ⟨0, 0, 0, ⟨#[]⟩, 0, 2, ?_, ?_, fun h => absurd h (by decide), fun h => absurd h (by decide)⟩
    · unfold frame_ReadData.f
      rw [if_neg hlo, if_pos hhi, frame_ReadData.j0, if_pos rfl]
    · unfold rf_ReadData.f
      rw [if_neg hlo, if_pos hhi, rf_ReadData.j0, if_pos rfl]
  obtain ⟨h, r1, e1, hh, hr1⟩ := part l 4 (by omega)
  obtain ⟨A, r2, e2, hA, hr2⟩ := part r1 4 (by omega)
  obtain ⟨Z, R, e3, hZ, hr3⟩ := part r2 2 (by omega)
  obtain ⟨x0, x1, x2, x3, rfl⟩ := four h hh
  subst e3 e2
  have bA : Bytes A := by rw [e1] at hb; exact hb.right.left
  have bZ : Bytes Z := by rw [e1] at hb; exact hb.right.right.left
  have bR : Bytes R := by rw [e1] at hb; exact hb.right.right.right
  have b4 : Bytes [x0, x1, x2, x3] := by rw [e1] at hb; exact hb.left
  have b0 := b4 x0 (by simp)
  have b1 := b4 x1 (by simp)
  have b2 := b4 x2 (by simp)
  have b3 := b4 x3 (by simp)
  have hR : R.length = l.length - 10 := by omega
  have s0 : l.take 2 = [x0, x1] := by rw [e1]; rfl
  have r0 : rd l 0 = x0 := by rw [e1]; rfl
  have r1 : rd l 1 = x1 := by rw [e1]; rfl
  have r2 : rd l 2 = x2 := by rw [e1]; rfl
  have r3 : rd l 3 = x3 := by rw [e1]; rfl
  have s1 : (l.take 8).drop 4 = A := seg _ _ _ e1 rfl (by simp [hA])
  have s2 : (l.take 10).drop 8 = Z := seg ([x0, x1, x2, x3] ++ A) Z R (by rw [e1]; simp only [List.append_assoc]) (by simp [hA]) (by simp [hA, hZ])
  have hW : frame_Which.f (q + 2) l = some (if x0 * 256 + x1 = 35101 then 1 else if x0 * 256 + x1 = 2048 then 2 else 0) := by
    rw [which_eq hb (by omega) (by omega), s0, val2]
  by_cases hd : x0 = 8 ∧ x1 = 0
  · obtain ⟨b, E, eb, hbl, hE4'⟩ := part l (l.length - 4) (by omega)
    have hE4 : E.length = 4 := by omega
    have bE : Bytes E := by rw [eb] at hb; exact hb.right
    have hO : frame_open.f (q + 1) l = some (val E == crc b) := open_eq eb hb hE4 (by omega) (by omega)
    have hO' : rf_sum.f (q + 1) l = some (val E == crc b) := sum_ref_eq eb hb hE4 (by omega) (by omega)
    have hP0 : frame_ReadData.f (q + 2) l = frame_ReadData.j0 (q + 2) l false := by
      unfold frame_ReadData.f
      rw [if_neg hlo, if_neg hhi, hW, Option.bind_some, if_neg (by omega), if_pos (by omega)]
      rfl
    have hQ0 : rf_ReadData.f (q + 2) l = rf_ReadData.j0 (q + 2) l false := by
      unfold rf_ReadData.f
      rw [if_neg hlo, if_neg hhi, if_pos (by omega), r0, if_pos hd.1, if_pos (by omega), r1, show (x1 != 0) = false from by simp [hd.2]]
    rw [hP0, hQ0]
    by_cases hs : (val E == crc b) = true
    · have vA := val_nonneg bA
      have vZ := val_nonneg bZ
      have wA := val_lt 4 A bA hA
      have wZ := val_lt 2 Z bZ hZ
      have n4 : (256 : Int) ^ 4 = 4294967296 := by decide
      have n2 : (256 : Int) ^ 2 = 65536 := by decide
      rw [n4] at wA
      rw [n2] at wZ
      have gA : frame_get.f (q + 1) A = some (val A) := getn bA (by omega) (by omega)
      have gZ : frame_get.f (q + 1) Z = some (val Z) := getn bZ (by omega) (by omega)
      have uA : rf_value.f (q + 1) A = some (val A) := value_eq bA (by omega) (by omega)
      have uZ : rf_value.f (q + 1) Z = some (val Z) := value_eq bZ (by omega) (by omega)
      have kz := wrap_id (x := val Z) (by omega) (by omega)
      have ka := wrap_id (x := val A) (by omega) (by omega)
      have hP1 : frame_ReadData.j0 (q + 2) l false = if val A > 2147483647 then frame_ReadData.j1 (q + 1) l (val A) (val Z) true else frame_ReadData.j1 (q + 1) l (val A) (val Z) (decide (val Z > (l.length : Int) - 14)) := by
        rw [frame_ReadData.j0, if_neg (by decide), hO, Option.bind_some, if_pos hs, if_pos (by omega), s1, gA, Option.bind_some, if_pos (by omega), s2, gZ, Option.bind_some, kz, wrap_id (x := (l.length : Int) - 10) (by omega) (by omega), wrap_id (x := (l.length : Int) - 10 - 4) (by omega) (by omega), show (l.length : Int) - 10 - 4 = (l.length : Int) - 14 from by omega]
      have hJ : frame_ReadData.j1 (q + 1) l (val A) (val Z) true = some (0, 0, 0, ⟨#[]⟩, 0, 2) := by rw [frame_ReadData.j1, if_pos rfl]
      rw [hP1]
      by_cases hz : val Z > (l.length : Int) - 14
      · have hQ1 : rf_ReadData.j0 (q + 2) l false = some (0, 0, 0, ⟨#[]⟩, 0, 2) := by
          rw [rf_ReadData.j0, if_neg (by decide), hO', Option.bind_some, if_pos hs, if_pos (by omega), s2, uZ, Option.bind_some, kz, wrap_id (x := (l.length : Int) - 14) (by omega) (by omega), if_pos hz]
        rw [hQ1, decide_eq_true hz, hJ, ite_self]
        exact ⟨_, _, _, _, _, _, rfl, rfl, fun h => absurd h (by decide), fun h => absurd h (by decide)⟩
      rw [decide_eq_false hz]
      obtain ⟨Pp, R2, e4, hPp, hR2⟩ := part R (val Z).toNat (by omega)
      obtain ⟨T, E', e5, hT, hE'⟩ := part R2 (l.length - 14 - (val Z).toNat) (by omega)
      subst e5 e4
      have bP : Bytes Pp := bR.left
      have bT : Bytes T := bR.right.left
      have s3 : (l.take (10 + val Z).toNat).drop 10 = Pp := seg ([x0, x1, x2, x3] ++ (A ++ Z)) Pp (T ++ E') (by rw [e1]; simp only [List.append_assoc]) (by simp [hA, hZ]) (by simp [hA, hZ]; omega)
      have s4 : (l.take ((l.length : Int) - 4).toNat).drop (10 + val Z).toNat = T := seg ([x0, x1, x2, x3] ++ (A ++ (Z ++ Pp))) T E' (by rw [e1]; simp only [List.append_assoc]) (by simp [hA, hZ]; omega) (by simp [hA, hZ]; omega)
      have eb2 : l = ([x0, x1, x2, x3] ++ (A ++ (Z ++ (Pp ++ T)))) ++ E' := by rw [e1]; simp only [List.append_assoc]
      have hEl : E'.length = 4 := by omega
      obtain ⟨hb1, hE1⟩ := List.append_inj' (eb.symm.trans eb2) (by omega)
      have hps : ((strOfNums Pp).size : Int) = val Z := by rw [strOfNums_size]; omega
      have hf : ∀ z, frame_ReadData.l0 (z + 1) l (val A) (val Z) T (T.length : Int) (T.length : Int) = if rightD x2 x3 (val A) (strOfNums Pp).size (l.length : Int) then some (x2, x3, val A, strOfNums Pp, (l.length : Int), 0) else some (0, 0, 0, ⟨#[]⟩, 0, 2) := by
        intro z
        rw [frame_ReadData.l0, if_neg (by omega), if_pos (by omega), if_pos (by omega), wrap_id (x := 10 + val Z) (by omega) (by omega), if_pos (by omega), if_pos (by omega), s3, Option.bind_some, r2, r3, wrap_id (x := x2) (by omega) (by omega), wrap_id (x := x3) (by omega) (by omega), ka, rightData_eq, Option.bind_some]
        by_cases hR : rightD x2 x3 (val A) (strOfNums Pp).size (l.length : Int)
        · rw [decide_eq_true hR, if_pos rfl, if_pos hR]
        · rw [decide_eq_false hR, if_neg (by decide), if_neg hR]
      have hJ2 : frame_ReadData.j1 (q + 1) l (val A) (val Z) false = if (∀ x ∈ T, x = 0) then (if rightD x2 x3 (val A) (strOfNums Pp).size (l.length : Int) then some (x2, x3, val A, strOfNums Pp, (l.length : Int), 0) else some (0, 0, 0, ⟨#[]⟩, 0, 2)) else some (0, 0, 0, ⟨#[]⟩, 0, 2) := by
        rw [frame_ReadData.j1, if_neg (by decide), wrap_id (x := 10 + val Z) (by omega) (by omega), wrap_id (x := (l.length : Int) - 4) (by omega) (by omega), if_pos (by omega), if_pos (by omega), if_pos (by omega), s4, Option.bind_some]
        obtain ⟨u, hu⟩ : ∃ u, q = u + T.length + 1 := ⟨q - T.length - 1, by omega⟩
        by_cases hzz : ∀ x ∈ T, x = 0
        · rw [if_pos hzz, hu]
          exact (zeros_loop l (val A) (val Z) T (by omega) u T.length 0 (by omega) hzz).trans (hf u)
        · rw [if_neg hzz, hu]
          exact nonzero_loop l (val A) (val Z) T (by omega) u T.length 0 (by omega) hzz
      have hQ1 : rf_ReadData.j0 (q + 2) l false = if rightD x2 x3 (val A) (strOfNums Pp).size (l.length : Int) then (rf_Data.f (q + 1) x2 x3 (val A) (strOfNums Pp) (l.length : Int)).bind fun t => (rf_same.f t l).bind fun u => if u = true then some (x2, x3, val A, strOfNums Pp, (l.length : Int), 0) else some (0, 0, 0, ⟨#[]⟩, 0, 2) else some (0, 0, 0, ⟨#[]⟩, 0, 2) := by
        rw [rf_ReadData.j0, if_neg (by decide), hO', Option.bind_some, if_pos hs, if_pos (by omega), s2, uZ, Option.bind_some, kz, wrap_id (x := (l.length : Int) - 14) (by omega) (by omega), if_neg hz,
          if_pos (by omega), if_pos (by omega), if_pos (by omega), s1, uA, Option.bind_some, wrap_id (x := 10 + val Z) (by omega) (by omega), if_pos (by omega), if_pos (by omega), s3, Option.bind_some, r2, r3, wrap_id (x := x2) (by omega) (by omega), wrap_id (x := x3) (by omega) (by omega), ka, rightD_ref, Option.bind_some]
        by_cases hR : rightD x2 x3 (val A) (strOfNums Pp).size (l.length : Int)
        · rw [decide_eq_true hR, if_pos rfl, if_pos hR]
        · rw [decide_eq_false hR, if_neg (by decide), if_neg hR]
      rw [hJ, hJ2, hQ1]
      by_cases hR : rightD x2 x3 (val A) (strOfNums Pp).size (l.length : Int)
      · have hR' := hR
        unfold rightD at hR'
        have hA4 : be 4 (val A) = A := be_val 4 A bA hA
        have hZ2 : be 2 ((strOfNums Pp).size : Int) = Z := by rw [hps]; exact be_val 2 Z bZ hZ
        have hbody : bodyD x2 x3 (val A) (strOfNums Pp) (l.length : Int) = [x0, x1, x2, x3] ++ (A ++ (Z ++ (Pp ++ List.replicate T.length 0))) := by
          unfold bodyD headD
          rw [hA4, hZ2, bytesOf_strOfNums bP, show x2 % 256 = x2 from by omega, show x3 % 256 = x3 from by omega, hd.1, hd.2, show ((l.length : Int) - 14 - ((strOfNums Pp).size : Int)).toNat = T.length from by omega]
          simp only [List.append_assoc]
        rw [if_pos hR, if_pos hR, if_neg (show ¬ val A > 2147483647 from by omega), data_ref hR (by omega), Option.bind_some, same_eq (shut_bytes (bodyD_bytes _ _ _ _ _)) hb, Option.bind_some]
        have hEc : be 4 (crc b) = E := by
          rw [← be_val 4 E bE hE4]
          congr 1
          exact (beq_iff_eq.1 hs).symm
        by_cases hzz : ∀ x ∈ T, x = 0
        · have hlq : shut (bodyD x2 x3 (val A) (strOfNums Pp) (l.length : Int)) = l := by
            unfold shut
            rw [hbody, ← (zero_dec T).1 hzz, ← hb1, hEc, ← eb]
          rw [if_pos hzz, decide_eq_true hlq, if_pos rfl]
          exact ⟨_, _, _, _, _, _, rfl, rfl, fun _ => ⟨hR, hlq.symm⟩, fun h => absurd h (by decide)⟩
        · have hlq : ¬ shut (bodyD x2 x3 (val A) (strOfNums Pp) (l.length : Int)) = l := by
            intro e
            apply hzz
            unfold shut at e
            rw [hbody, e1] at e
            simp only [List.append_assoc] at e
            have e6 := List.append_cancel_left (List.append_cancel_left (List.append_cancel_left (List.append_cancel_left e)))
            have e7 := congrArg (List.take T.length) e6
            rw [List.take_left' (by simp), List.take_left' rfl] at e7
            exact (zero_dec T).2 e7.symm
          rw [if_neg hzz, decide_eq_false hlq, if_neg (by decide)]
          exact ⟨_, _, _, _, _, _, rfl, rfl, fun h => absurd h (by decide), fun h => absurd h (by decide)⟩
      · rw [if_neg hR, if_neg hR, ite_self, ite_self]
        exact ⟨_, _, _, _, _, _, rfl, rfl, fun h => absurd h (by decide), fun h => absurd h (by decide)⟩
    · refine ⟨0, 0, 0, ⟨#[]⟩, 0, 8, ?_, ?_, fun h => absurd h (by decide), fun _ => ⟨b, E, eb, hE4, hs⟩⟩
      · rw [frame_ReadData.j0, if_neg (by decide), hO, Option.bind_some, if_neg hs]
      · rw [rf_ReadData.j0, if_neg (by decide), hO', Option.bind_some, if_neg hs]
  · refine ⟨0, 0, 0, ⟨#[]⟩, 0, 2, ?_, ?_, fun h => absurd h (by decide), fun h => absurd h (by decide)⟩
    · unfold frame_ReadData.f
      have hw : ((if x0 * 256 + x1 = 35101 then 1 else if x0 * 256 + x1 = 2048 then 2 else 0 : Int) != 2) = true := by
        rw [show (if x0 * 256 + x1 = 2048 then 2 else 0 : Int) = 0 from if_neg (by omega)]
        split <;> rfl
      rw [if_neg hlo, if_neg hhi, hW, Option.bind_some, hw, frame_ReadData.j0, if_pos rfl]
    · unfold rf_ReadData.f
      rw [if_neg hlo, if_neg hhi, if_pos (by omega), r0]
      split
      · rw [if_pos (by omega), r1, rf_ReadData.j0, if_pos (by simp; omega)]
      · rw [rf_ReadData.j0, if_pos rfl]
end Go.Proofs.Ytgeheedfmdlefaa.Pure
