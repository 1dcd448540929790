/- Reading a control frame: the program's answer and the document's are one. -/
import Derived.Test.YtgeheedfmdlefaaFrameSealedFns3
import Derived.Test.YtgeheedfmdlefaaFrameSealedFRead
namespace Go.Proofs.Ytgeheedfmdlefaa.Pure
open Go.RowKit Go.Proofs.Ytgeheedfmdlefaa.PF Go.Proofs.YtgeheedfmdlefaaW.PrintWords Go.Proofs.YtgeheedfmdlefaaW.PrintLast Go.Proofs.YtgeheedfmdlefaaW.PrintMore
set_option linter.unusedVariables false

theorem val2 (a b : Int) : val [a, b] = a * 256 + b := by
  simp [val]
/-- What reading a control frame tells, of both. -/
theorem readControl_both {l : List Int} (hb : Bytes l) (hl : l.length < 140737488355328) {k : Nat} (hk : 10 * l.length + 1000 ≤ k) :
    ∃ a b c d e n : Int, frame_ReadControl.f k l = some (a, b, c, d, e, n) ∧ rf_ReadControl.f k l = some (a, b, c, d, e, n) ∧ (n = 0 → rightC a b c d e ∧ 0 ≤ d ∧ l = shut (bodyC a b c d e)) ∧ (n = 8 → ∃ b E, l = b ++ E ∧ E.length = 4 ∧ ¬ (val E == crc b) = true) := by
  obtain ⟨q, rfl⟩ : ∃ q, k = q + 2 := ⟨k - 2, by omega⟩
  by_cases h34 : (l.length : Int) = 34
  · have hk' : 600 ≤ q := by omega
    obtain ⟨h, r1, e1, hh, hr1⟩ := part l 4 (by omega)
    obtain ⟨A, r2, e2, hA, hr2⟩ := part r1 8 (by omega)
    obtain ⟨B, r3, e3, hB, hr3⟩ := part r2 4 (by omega)
    obtain ⟨C, r4, e4, hC, hr4⟩ := part r3 8 (by omega)
    obtain ⟨D, E, e5, hD, hE⟩ := part r4 6 (by omega)
    obtain ⟨x0, x1, x2, x3, rfl⟩ := four h hh
    subst e5 e4 e3 e2
    have hE4 : E.length = 4 := by omega
    have bA : Bytes A := by rw [e1] at hb; exact hb.right.left
    have bB : Bytes B := by rw [e1] at hb; exact hb.right.right.left
    have bC : Bytes C := by rw [e1] at hb; exact hb.right.right.right.left
    have bD : Bytes D := by rw [e1] at hb; exact hb.right.right.right.right.left
    have bE : Bytes E := by rw [e1] at hb; exact hb.right.right.right.right.right
    have b4 : Bytes [x0, x1, x2, x3] := by rw [e1] at hb; exact hb.left
    have b0 := b4 x0 (by simp)
    have b1 := b4 x1 (by simp)
    have b2 := b4 x2 (by simp)
    have b3 := b4 x3 (by simp)
    have s0 : l.take 2 = [x0, x1] := by rw [e1]; rfl
    have r0 : rd l 0 = x0 := by rw [e1]; rfl
    have r1 : rd l 1 = x1 := by rw [e1]; rfl
    have r2 : rd l 2 = x2 := by rw [e1]; rfl
    have r3 : rd l 3 = x3 := by rw [e1]; rfl
    have s1 : (l.take 12).drop 4 = A := seg _ _ _ e1 rfl (by simp [hA])
    have s2 : (l.take 16).drop 12 = B := seg ([x0, x1, x2, x3] ++ A) B (C ++ (D ++ E)) (by rw [e1]; simp only [List.append_assoc]) (by simp [hA]) (by simp [hA, hB])
    have s3 : (l.take 24).drop 16 = C := seg ([x0, x1, x2, x3] ++ (A ++ B)) C (D ++ E) (by rw [e1]; simp only [List.append_assoc]) (by simp [hA, hB]) (by simp [hA, hB, hC])
    have s4 : (l.take 30).drop 24 = D := seg ([x0, x1, x2, x3] ++ (A ++ (B ++ C))) D E (by rw [e1]; simp only [List.append_assoc]) (by simp [hA, hB, hC]) (by simp [hA, hB, hC, hD])
    have eb : l = ([x0, x1, x2, x3] ++ (A ++ (B ++ (C ++ D)))) ++ E := by rw [e1]; simp only [List.append_assoc]
    obtain ⟨b, hbd⟩ : ∃ b, b = [x0, x1, x2, x3] ++ (A ++ (B ++ (C ++ D))) := ⟨_, rfl⟩
    rw [← hbd] at eb
    have bb : Bytes b := by rw [eb] at hb; exact hb.left
    have hW : frame_Which.f (q + 2) l = some (if x0 * 256 + x1 = 35101 then 1 else if x0 * 256 + x1 = 2048 then 2 else 0) := by
      rw [which_eq hb (by omega) (by omega), s0, val2]
    have hO : frame_open.f (q + 1) l = some (val E == crc b) := open_eq eb hb hE4 (by omega) (by omega)
    have hO' : rf_sum.f (q + 1) l = some (val E == crc b) := sum_ref_eq eb hb hE4 (by omega) (by omega)
    by_cases hd : x0 = 137 ∧ x1 = 29
    · have hP0 : frame_ReadControl.f (q + 2) l = frame_ReadControl.j0 (q + 2) l false := by
        unfold frame_ReadControl.f
        rw [if_pos h34, hW, Option.bind_some, if_pos (by omega)]
        rfl
      have hQ0 : rf_ReadControl.f (q + 2) l = rf_ReadControl.j0 (q + 2) l false := by
        unfold rf_ReadControl.f
        rw [if_pos h34, if_pos (by omega), r0, if_pos hd.1, if_pos (by omega), r1, show (x1 != 29) = false from by simp [hd.2]]
      rw [hP0, hQ0]
      by_cases hs : (val E == crc b) = true
      · have vA := val_nonneg bA
        have vB := val_nonneg bB
        have vC := val_nonneg bC
        have vD := val_nonneg bD
        have wA := val_lt 8 A bA hA
        have wB := val_lt 4 B bB hB
        have wC := val_lt 8 C bC hC
        have wD := val_lt 6 D bD hD
        have n8 : (256 : Int) ^ 8 = 18446744073709551616 := by decide
        have n4 : (256 : Int) ^ 4 = 4294967296 := by decide
        rw [n8] at wA wC
        rw [n4] at wB
        have gA : frame_get.f (q + 1) A = some (val A) := getn bA (by omega) (by omega)
        have gC : frame_get.f (q + 1) C = some (val C) := getn bC (by omega) (by omega)
        have gD : frame_get.f (q + 1) D = some (val D) := getn bD (by omega) (by omega)
        have gB : frame_get.f q B = some (val B) := getn bB (by omega) (by omega)
        have uA : rf_value.f (q + 1) A = some (val A) := value_eq bA (by omega) (by omega)
        have uB : rf_value.f (q + 1) B = some (val B) := value_eq bB (by omega) (by omega)
        have uC : rf_value.f (q + 1) C = some (val C) := value_eq bC (by omega) (by omega)
        have hQ1 : rf_ReadControl.j0 (q + 2) l false = if rightC x2 x3 (wrap64 (val A)) (val B) (wrap64 (val C)) then (rf_Control.f (q + 1) x2 x3 (wrap64 (val A)) (val B) (wrap64 (val C))).bind fun t => (rf_same.f t l).bind fun u => if u = true then some (x2, x3, wrap64 (val A), val B, wrap64 (val C), 0) else some (0, 0, 0, 0, 0, 2) else some (0, 0, 0, 0, 0, 2) := by
          rw [rf_ReadControl.j0, if_neg (by decide), hO', Option.bind_some, if_pos hs, if_pos (by omega), if_pos (by omega), if_pos (by omega), s1, uA, Option.bind_some, if_pos (by omega), s2, uB, Option.bind_some, if_pos (by omega), s3, uC, Option.bind_some, r2, r3,
            wrap_id (x := x2) (by omega) (by omega), wrap_id (x := x3) (by omega) (by omega), show val B % 4294967296 = val B from by omega, rightC_ref, Option.bind_some]
          by_cases hR : rightC x2 x3 (wrap64 (val A)) (val B) (wrap64 (val C))
          · rw [decide_eq_true hR, if_pos rfl, if_pos hR]
          · rw [decide_eq_false hR, if_neg (by decide), if_neg hR]
        have hJ : ∀ z, frame_ReadControl.j1 (q + 1) l (val A) (val C) z = if z = true then some (0, 0, 0, 0, 0, 2) else if rightC x2 x3 (wrap64 (val A)) (val B) (wrap64 (val C)) then some (x2, x3, wrap64 (val A), val B, wrap64 (val C), 0) else some (0, 0, 0, 0, 0, 2) := by
          intro z
          rw [frame_ReadControl.j1]
          by_cases hz : z = true
          · rw [if_pos hz, if_pos hz]
          · rw [if_neg hz, if_neg hz, if_pos (by omega), if_pos (by omega), if_pos (by omega), s2, gB, Option.bind_some, r2, r3, wrap_id (x := x2) (by omega) (by omega), wrap_id (x := x3) (by omega) (by omega), show val B % 4294967296 = val B from by omega, rightControl_eq, Option.bind_some]
            by_cases hR : rightC x2 x3 (wrap64 (val A)) (val B) (wrap64 (val C))
            · rw [decide_eq_true hR, if_pos rfl, if_pos hR]
            · rw [decide_eq_false hR, if_neg (by decide), if_neg hR]
        have hP1 : frame_ReadControl.j0 (q + 2) l false = if val A > 1125899906842624 ∨ val C > 1048576 ∨ val D ≠ 0 then some (0, 0, 0, 0, 0, 2) else if rightC x2 x3 (wrap64 (val A)) (val B) (wrap64 (val C)) then some (x2, x3, wrap64 (val A), val B, wrap64 (val C), 0) else some (0, 0, 0, 0, 0, 2) := by
          rw [frame_ReadControl.j0, if_neg (by decide), hO, Option.bind_some, if_pos hs, if_pos (by omega), s1, gA, Option.bind_some, if_pos (by omega), s3, gC, Option.bind_some]
          by_cases c1 : val A > 1125899906842624
          · rw [if_pos c1, hJ, if_pos rfl, if_pos (.inl c1)]
          · rw [if_neg c1]
            by_cases c2 : val C > 1048576
            · rw [if_pos c2, hJ, if_pos rfl, if_pos (.inr (.inl c2))]
            · rw [if_neg c2, if_pos (by omega), s4, gD, Option.bind_some, hJ]
              by_cases c3 : val D = 0
              · rw [if_neg (by simp [c3]), if_neg (show ¬ (val A > 1125899906842624 ∨ val C > 1048576 ∨ val D ≠ 0) from by omega)]
              · rw [if_pos (by simp [c3]), if_pos (.inr (.inr c3))]
        rw [hP1, hQ1]
        by_cases hR : rightC x2 x3 (wrap64 (val A)) (val B) (wrap64 (val C))
        · have hR' := hR
          unfold rightC at hR'
          have mA : val A ≤ 1125899906842624 := by
            have := hR'.2.2.2.2
            unfold wrap64 at this
            omega
          have mC : val C ≤ 1048576 := by
            have := hR'.2.2.2.2.2.2.2
            unfold wrap64 at this
            omega
          have qA := wrap_id (x := val A) (by omega) (by omega)
          have qC := wrap_id (x := val C) (by omega) (by omega)
          rw [qA, qC] at hR
          rw [qA, qC, if_pos hR, if_pos hR, control_ref hR vB (by omega), Option.bind_some, same_eq (shut_bytes (bodyC_bytes _ _ _ _ _)) hb, Option.bind_some]
          have hbody : bodyC x2 x3 (val A) (val B) (val C) = [x0, x1, x2, x3] ++ (A ++ (B ++ (C ++ be 6 0))) := by
            unfold bodyC
            rw [be_val 8 A bA hA, be_val 4 B bB hB, be_val 8 C bC hC, show x2 % 256 = x2 from by omega, show x3 % 256 = x3 from by omega, hd.1, hd.2]
          have hEc : be 4 (crc b) = E := by
            rw [← be_val 4 E bE hE4]
            congr 1
            exact (beq_iff_eq.1 hs).symm
          by_cases hz : val D = 0
          · have hDz : be 6 0 = D := by rw [← be_val 6 D bD hD, hz]
            have hlq : shut (bodyC x2 x3 (val A) (val B) (val C)) = l := by
              unfold shut
              rw [hbody, hDz, ← hbd, hEc, eb]
            rw [if_neg (by omega), decide_eq_true hlq, if_pos rfl]
            exact ⟨_, _, _, _, _, _, rfl, rfl, fun _ => ⟨hR, vB, hlq.symm⟩, fun h => absurd h (by decide)⟩
          · have hlq : ¬ shut (bodyC x2 x3 (val A) (val B) (val C)) = l := by
              intro e
              apply hz
              unfold shut at e
              rw [hbody, e1] at e
              simp only [List.append_assoc] at e
              have e6 := List.append_cancel_left (List.append_cancel_left (List.append_cancel_left (List.append_cancel_left e)))
              have e7 := congrArg (List.take 6) e6
              rw [List.take_left' (be_length 6 0), List.take_left' hD] at e7
              rw [← e7]
              decide
            rw [if_pos (.inr (.inr hz)), decide_eq_false hlq, if_neg (by decide)]
            exact ⟨_, _, _, _, _, _, rfl, rfl, fun h => absurd h (by decide), fun h => absurd h (by decide)⟩
        · rw [if_neg hR, if_neg hR, ite_self]
          exact ⟨_, _, _, _, _, _, rfl, rfl, fun h => absurd h (by decide), fun h => absurd h (by decide)⟩
      · refine ⟨0, 0, 0, 0, 0, 8, ?_, ?_, fun h => absurd h (by decide), fun _ => ⟨b, E, eb, hE4, hs⟩⟩
        · rw [frame_ReadControl.j0, if_neg (by decide), hO, Option.bind_some, if_neg hs]
        · rw [rf_ReadControl.j0, if_neg (by decide), hO', Option.bind_some, if_neg hs]
    · refine ⟨0, 0, 0, 0, 0, 2, ?_, ?_, fun h => absurd h (by decide), fun h => absurd h (by decide)⟩
      · unfold frame_ReadControl.f
        have hw : ((if x0 * 256 + x1 = 2048 then 2 else 0 : Int) != 1) = true := by split <;> rfl
        rw [if_pos h34, hW, Option.bind_some, if_neg (by omega), hw, frame_ReadControl.j0, if_pos rfl]
      · unfold rf_ReadControl.f
        rw [if_pos h34, if_pos (by omega), r0]
        split
        · rw [if_pos (by omega), r1, rf_ReadControl.j0, if_pos (by simp; omega)]
        · rw [rf_ReadControl.j0, if_pos rfl]
  · refine ⟨0, 0, 0, 0, 0, 2, ?_, ?_, fun h => absurd h (by decide), fun h => absurd h (by decide)⟩
    · unfold frame_ReadControl.f
      rw [if_neg h34, frame_ReadControl.j0, if_pos rfl]
    · unfold rf_ReadControl.f
      rw [if_neg h34, rf_ReadControl.j0, if_pos rfl]
end Go.Proofs.Ytgeheedfmdlefaa.Pure
