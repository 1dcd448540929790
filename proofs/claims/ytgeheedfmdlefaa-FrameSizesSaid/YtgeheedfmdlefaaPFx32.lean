-- Written by a program for this claim.
import Derived.Test.YtgeheedfmdlefaaPFx0
import Derived.Test.YtgeheedfmdlefaaPFx12
import Derived.Test.YtgeheedfmdlefaaPFx14
import Derived.Test.YtgeheedfmdlefaaPFx15
namespace Go.Proofs.Ytgeheedfmdlefaa.PF
open Go.RowKit Go.Proofs.YtgeheedfmdlefaaW.PrintWords Go.Proofs.YtgeheedfmdlefaaW.PrintLast Go.Proofs.YtgeheedfmdlefaaW.PrintMore
attribute [local go_sem] max2_int min2_int max_two min_two max_three min_three max_four min_four   -- for this text's walks alone
attribute [-simp] ByteArray.size_extract
set_option linter.unusedVariables false
set_option linter.unusedSimpArgs false

/-! ### tocsinlaw06_FrameSizes: function 10 -/
mutual
def tocsinlaw06_FrameSizes.j0 : Nat → ByteArray → Int → List Int → Bool → Option (Bool)
  | 0, _, _, _, _ => none
  | k + 1, x0, x5, x6, x47 => if x47 = true then (none) else (if 0 ≤ (wrap64 (10 + (x0.size : Int))) then (if (wrap64 (10 + (x0.size : Int))) ≤ (wrap64 (x5 - 4)) then (if (wrap64 (x5 - 4)) ≤ (x6.length : Int) then ((some ((x6.take ((wrap64 (x5 - 4)) : Int).toNat).drop ((wrap64 (10 + (x0.size : Int))) : Int).toNat : List Int)).bind fun y580 => (tocsinlaw06_FrameSizes.l0 k x5 y580 (y580.length : Int) 0)) else (none)) else (none)) else (none))
def tocsinlaw06_FrameSizes.l0 : Nat → Int → List Int → Int → Int → Option (Bool)
  | 0, _, _, _, _ => none
  | k + 1, x5, x54, x55, x56 => if x56 < x55 then (if 0 ≤ x56 then (if x56 < (x54.length : Int) then (if (rd x54 x56) = 0 then (tocsinlaw06_FrameSizes.l0 k x5 x54 x55 (wrap64 (x56 + 1))) else (none)) else (none)) else (none)) else ((frame_Time.f x5).bind fun t585 => (some (t585 == (wrap64 (8 * x5)))))
end
def tocsinlaw06_FrameSizes.f (k : Nat) (a0 : ByteArray) (a1 : Int) : Option (Bool) := (tocsinlaw06_fixed.f k).bind fun t571 => (if t571 = true then (if 0 ≤ (mn (a0.size : Int) (wrap64 ((wrap64 (64 + (Int.tmod (wrap64 (a1)) 1455))) - 14))) then (if (mn (a0.size : Int) (wrap64 ((wrap64 (64 + (Int.tmod (wrap64 (a1)) 1455))) - 14))) ≤ (a0.size : Int) then ((frame_Data.f k 3 3 0 (a0.extract 0 ((mn (a0.size : Int) (wrap64 ((wrap64 (64 + (Int.tmod (wrap64 (a1)) 1455))) - 14))) : Int).toNat) (wrap64 (64 + (Int.tmod (wrap64 (a1)) 1455)))).bind fun bt572 => (if bt572.2 = 0 then (if (bt572.1.length : Int) = (wrap64 (64 + (Int.tmod (wrap64 (a1)) 1455))) then (if 10 ≤ (wrap64 (10 + ((a0.extract 0 ((mn (a0.size : Int) (wrap64 ((wrap64 (64 + (Int.tmod (wrap64 (a1)) 1455))) - 14))) : Int).toNat).size : Int))) then (if (wrap64 (10 + ((a0.extract 0 ((mn (a0.size : Int) (wrap64 ((wrap64 (64 + (Int.tmod (wrap64 (a1)) 1455))) - 14))) : Int).toNat).size : Int))) ≤ (bt572.1.length : Int) then (tocsinlaw06_FrameSizes.j0 k (a0.extract 0 ((mn (a0.size : Int) (wrap64 ((wrap64 (64 + (Int.tmod (wrap64 (a1)) 1455))) - 14))) : Int).toNat) (wrap64 (64 + (Int.tmod (wrap64 (a1)) 1455))) bt572.1 ((strOfNums ((bt572.1.take ((wrap64 (10 + ((a0.extract 0 ((mn (a0.size : Int) (wrap64 ((wrap64 (64 + (Int.tmod (wrap64 (a1)) 1455))) - 14))) : Int).toNat).size : Int))) : Int).toNat).drop 10)).toList != (a0.extract 0 ((mn (a0.size : Int) (wrap64 ((wrap64 (64 + (Int.tmod (wrap64 (a1)) 1455))) - 14))) : Int).toNat).toList)) else (none)) else (none)) else (tocsinlaw06_FrameSizes.j0 k (a0.extract 0 ((mn (a0.size : Int) (wrap64 ((wrap64 (64 + (Int.tmod (wrap64 (a1)) 1455))) - 14))) : Int).toNat) (wrap64 (64 + (Int.tmod (wrap64 (a1)) 1455))) bt572.1 true)) else (tocsinlaw06_FrameSizes.j0 k (a0.extract 0 ((mn (a0.size : Int) (wrap64 ((wrap64 (64 + (Int.tmod (wrap64 (a1)) 1455))) - 14))) : Int).toNat) (wrap64 (64 + (Int.tmod (wrap64 (a1)) 1455))) bt572.1 true))) else (none)) else (none)) else (none))
theorem tocsinlaw06_FrameSizes.mono_l : ∀ k, (∀ y0 y1 y2 y3, LeO (tocsinlaw06_FrameSizes.j0 k y0 y1 y2 y3) (tocsinlaw06_FrameSizes.j0 (k + 1) y0 y1 y2 y3)) ∧ (∀ y0 y1 y2 y3, LeO (tocsinlaw06_FrameSizes.l0 k y0 y1 y2 y3) (tocsinlaw06_FrameSizes.l0 (k + 1) y0 y1 y2 y3))
  | 0 => ⟨fun _ _ _ _ r h => by simp [tocsinlaw06_FrameSizes.j0] at h, fun _ _ _ _ r h => by simp [tocsinlaw06_FrameSizes.l0] at h⟩
  | k + 1 => by
    obtain ⟨ih0, ih1⟩ := tocsinlaw06_FrameSizes.mono_l k
    refine ⟨?_, ?_⟩
    · intro y0 y1 y2 y3
      unfold tocsinlaw06_FrameSizes.j0
      repeat' first
      | (with_reducible exact ih0 _ _ _ _)
      | (with_reducible exact ih1 _ _ _ _)
      | (with_reducible exact frame_Data.mono _ _ _ _ _ _)
      | (with_reducible exact tocsinlaw06_fixed.mono _)
      | (with_reducible exact LeO.refl _)
      | (with_reducible exact LeO.none _)
      | (with_reducible refine LeO.ite ?_ ?_)
      | (with_reducible refine LeO.bind ?_ (fun _ => ?_))
      | exact ih0 _ _ _ _
      | exact ih1 _ _ _ _
      | exact frame_Data.mono _ _ _ _ _ _
      | exact tocsinlaw06_fixed.mono _
      | exact LeO.none _
      | refine LeO.ite ?_ ?_
      | refine LeO.bind ?_ (fun _ => ?_)
    · intro y0 y1 y2 y3
      unfold tocsinlaw06_FrameSizes.l0
      repeat' first
      | (with_reducible exact ih0 _ _ _ _)
      | (with_reducible exact ih1 _ _ _ _)
      | (with_reducible exact frame_Data.mono _ _ _ _ _ _)
      | (with_reducible exact tocsinlaw06_fixed.mono _)
      | (with_reducible exact LeO.refl _)
      | (with_reducible exact LeO.none _)
      | (with_reducible refine LeO.ite ?_ ?_)
      | (with_reducible refine LeO.bind ?_ (fun _ => ?_))
      | exact ih0 _ _ _ _
      | exact ih1 _ _ _ _
      | exact frame_Data.mono _ _ _ _ _ _
      | exact tocsinlaw06_fixed.mono _
      | exact LeO.none _
      | refine LeO.ite ?_ ?_
      | refine LeO.bind ?_ (fun _ => ?_)
theorem tocsinlaw06_FrameSizes.mono : ∀ a0 a1 k, LeO (tocsinlaw06_FrameSizes.f k a0 a1) (tocsinlaw06_FrameSizes.f (k + 1) a0 a1) := by
  intro a0 a1 k
  obtain ⟨ih0, ih1⟩ := tocsinlaw06_FrameSizes.mono_l k
  unfold tocsinlaw06_FrameSizes.f
  repeat' first
      | (with_reducible exact ih0 _ _ _ _)
      | (with_reducible exact ih1 _ _ _ _)
      | (with_reducible exact frame_Data.mono _ _ _ _ _ _)
      | (with_reducible exact tocsinlaw06_fixed.mono _)
      | (with_reducible exact LeO.refl _)
      | (with_reducible exact LeO.none _)
      | (with_reducible refine LeO.ite ?_ ?_)
      | (with_reducible refine LeO.bind ?_ (fun _ => ?_))
      | exact ih0 _ _ _ _
      | exact ih1 _ _ _ _
      | exact frame_Data.mono _ _ _ _ _ _
      | exact tocsinlaw06_fixed.mono _
      | exact LeO.none _
      | refine LeO.ite ?_ ?_
      | refine LeO.bind ?_ (fun _ => ?_)
set_option maxHeartbeats 8000000 in
set_option maxRecDepth 100000 in
theorem tocsinlaw06_FrameSizes.calls (k : Nat) (a0 : ByteArray) (a1 : Int) (r : Bool) (w : World) (h : tocsinlaw06_FrameSizes.f k a0 a1 = some r) :
    Calls Try.prog 10 #[.string a0, .int .u16 a1] w fun e w' => e = .returned (.bool r) ∧ Below w.heap.size w w' := by
  have hu36 := Try.underlying36
  have HB := Aside0.mk (Below.refl w.heap.size w)
  have H : ((tocsinlaw06_fixed.f k).bind fun t571 => (if t571 = true then (if 0 ≤ (mn (a0.size : Int) (wrap64 ((wrap64 (64 + (Int.tmod (wrap64 (a1)) 1455))) - 14))) then (if (mn (a0.size : Int) (wrap64 ((wrap64 (64 + (Int.tmod (wrap64 (a1)) 1455))) - 14))) ≤ (a0.size : Int) then ((frame_Data.f k 3 3 0 (a0.extract 0 ((mn (a0.size : Int) (wrap64 ((wrap64 (64 + (Int.tmod (wrap64 (a1)) 1455))) - 14))) : Int).toNat) (wrap64 (64 + (Int.tmod (wrap64 (a1)) 1455)))).bind fun bt572 => (if bt572.2 = 0 then (if (bt572.1.length : Int) = (wrap64 (64 + (Int.tmod (wrap64 (a1)) 1455))) then (if 10 ≤ (wrap64 (10 + ((a0.extract 0 ((mn (a0.size : Int) (wrap64 ((wrap64 (64 + (Int.tmod (wrap64 (a1)) 1455))) - 14))) : Int).toNat).size : Int))) then (if (wrap64 (10 + ((a0.extract 0 ((mn (a0.size : Int) (wrap64 ((wrap64 (64 + (Int.tmod (wrap64 (a1)) 1455))) - 14))) : Int).toNat).size : Int))) ≤ (bt572.1.length : Int) then (tocsinlaw06_FrameSizes.j0 k (a0.extract 0 ((mn (a0.size : Int) (wrap64 ((wrap64 (64 + (Int.tmod (wrap64 (a1)) 1455))) - 14))) : Int).toNat) (wrap64 (64 + (Int.tmod (wrap64 (a1)) 1455))) bt572.1 ((strOfNums ((bt572.1.take ((wrap64 (10 + ((a0.extract 0 ((mn (a0.size : Int) (wrap64 ((wrap64 (64 + (Int.tmod (wrap64 (a1)) 1455))) - 14))) : Int).toNat).size : Int))) : Int).toNat).drop 10)).toList != (a0.extract 0 ((mn (a0.size : Int) (wrap64 ((wrap64 (64 + (Int.tmod (wrap64 (a1)) 1455))) - 14))) : Int).toNat).toList)) else (none)) else (none)) else (tocsinlaw06_FrameSizes.j0 k (a0.extract 0 ((mn (a0.size : Int) (wrap64 ((wrap64 (64 + (Int.tmod (wrap64 (a1)) 1455))) - 14))) : Int).toNat) (wrap64 (64 + (Int.tmod (wrap64 (a1)) 1455))) bt572.1 true)) else (tocsinlaw06_FrameSizes.j0 k (a0.extract 0 ((mn (a0.size : Int) (wrap64 ((wrap64 (64 + (Int.tmod (wrap64 (a1)) 1455))) - 14))) : Int).toNat) (wrap64 (64 + (Int.tmod (wrap64 (a1)) 1455))) bt572.1 true))) else (none)) else (none)) else (none))) = some r := h
  clear h
  replace H := Option.bind_eq_some_iff.mp H
  obtain ⟨t571, A30, H⟩ := H
  replace H : (if t571 = true then (if 0 ≤ (mn (a0.size : Int) (wrap64 ((wrap64 (64 + (Int.tmod (wrap64 (a1)) 1455))) - 14))) then (if (mn (a0.size : Int) (wrap64 ((wrap64 (64 + (Int.tmod (wrap64 (a1)) 1455))) - 14))) ≤ (a0.size : Int) then ((frame_Data.f k 3 3 0 (a0.extract 0 ((mn (a0.size : Int) (wrap64 ((wrap64 (64 + (Int.tmod (wrap64 (a1)) 1455))) - 14))) : Int).toNat) (wrap64 (64 + (Int.tmod (wrap64 (a1)) 1455)))).bind fun bt572 => (if bt572.2 = 0 then (if (bt572.1.length : Int) = (wrap64 (64 + (Int.tmod (wrap64 (a1)) 1455))) then (if 10 ≤ (wrap64 (10 + ((a0.extract 0 ((mn (a0.size : Int) (wrap64 ((wrap64 (64 + (Int.tmod (wrap64 (a1)) 1455))) - 14))) : Int).toNat).size : Int))) then (if (wrap64 (10 + ((a0.extract 0 ((mn (a0.size : Int) (wrap64 ((wrap64 (64 + (Int.tmod (wrap64 (a1)) 1455))) - 14))) : Int).toNat).size : Int))) ≤ (bt572.1.length : Int) then (tocsinlaw06_FrameSizes.j0 k (a0.extract 0 ((mn (a0.size : Int) (wrap64 ((wrap64 (64 + (Int.tmod (wrap64 (a1)) 1455))) - 14))) : Int).toNat) (wrap64 (64 + (Int.tmod (wrap64 (a1)) 1455))) bt572.1 ((strOfNums ((bt572.1.take ((wrap64 (10 + ((a0.extract 0 ((mn (a0.size : Int) (wrap64 ((wrap64 (64 + (Int.tmod (wrap64 (a1)) 1455))) - 14))) : Int).toNat).size : Int))) : Int).toNat).drop 10)).toList != (a0.extract 0 ((mn (a0.size : Int) (wrap64 ((wrap64 (64 + (Int.tmod (wrap64 (a1)) 1455))) - 14))) : Int).toNat).toList)) else (none)) else (none)) else (tocsinlaw06_FrameSizes.j0 k (a0.extract 0 ((mn (a0.size : Int) (wrap64 ((wrap64 (64 + (Int.tmod (wrap64 (a1)) 1455))) - 14))) : Int).toNat) (wrap64 (64 + (Int.tmod (wrap64 (a1)) 1455))) bt572.1 true)) else (tocsinlaw06_FrameSizes.j0 k (a0.extract 0 ((mn (a0.size : Int) (wrap64 ((wrap64 (64 + (Int.tmod (wrap64 (a1)) 1455))) - 14))) : Int).toNat) (wrap64 (64 + (Int.tmod (wrap64 (a1)) 1455))) bt572.1 true))) else (none)) else (none)) else (none)) = some r := H
  have A3 := Aside0.mk A30
  clear A30
  by_cases c4 : t571 = true
  · subst c4
    have H1 : (if 0 ≤ (mn (a0.size : Int) (wrap64 ((wrap64 (64 + (Int.tmod (wrap64 (a1)) 1455))) - 14))) then (if (mn (a0.size : Int) (wrap64 ((wrap64 (64 + (Int.tmod (wrap64 (a1)) 1455))) - 14))) ≤ (a0.size : Int) then ((frame_Data.f k 3 3 0 (a0.extract 0 ((mn (a0.size : Int) (wrap64 ((wrap64 (64 + (Int.tmod (wrap64 (a1)) 1455))) - 14))) : Int).toNat) (wrap64 (64 + (Int.tmod (wrap64 (a1)) 1455)))).bind fun bt572 => (if bt572.2 = 0 then (if (bt572.1.length : Int) = (wrap64 (64 + (Int.tmod (wrap64 (a1)) 1455))) then (if 10 ≤ (wrap64 (10 + ((a0.extract 0 ((mn (a0.size : Int) (wrap64 ((wrap64 (64 + (Int.tmod (wrap64 (a1)) 1455))) - 14))) : Int).toNat).size : Int))) then (if (wrap64 (10 + ((a0.extract 0 ((mn (a0.size : Int) (wrap64 ((wrap64 (64 + (Int.tmod (wrap64 (a1)) 1455))) - 14))) : Int).toNat).size : Int))) ≤ (bt572.1.length : Int) then (tocsinlaw06_FrameSizes.j0 k (a0.extract 0 ((mn (a0.size : Int) (wrap64 ((wrap64 (64 + (Int.tmod (wrap64 (a1)) 1455))) - 14))) : Int).toNat) (wrap64 (64 + (Int.tmod (wrap64 (a1)) 1455))) bt572.1 ((strOfNums ((bt572.1.take ((wrap64 (10 + ((a0.extract 0 ((mn (a0.size : Int) (wrap64 ((wrap64 (64 + (Int.tmod (wrap64 (a1)) 1455))) - 14))) : Int).toNat).size : Int))) : Int).toNat).drop 10)).toList != (a0.extract 0 ((mn (a0.size : Int) (wrap64 ((wrap64 (64 + (Int.tmod (wrap64 (a1)) 1455))) - 14))) : Int).toNat).toList)) else (none)) else (none)) else (tocsinlaw06_FrameSizes.j0 k (a0.extract 0 ((mn (a0.size : Int) (wrap64 ((wrap64 (64 + (Int.tmod (wrap64 (a1)) 1455))) - 14))) : Int).toNat) (wrap64 (64 + (Int.tmod (wrap64 (a1)) 1455))) bt572.1 true)) else (tocsinlaw06_FrameSizes.j0 k (a0.extract 0 ((mn (a0.size : Int) (wrap64 ((wrap64 (64 + (Int.tmod (wrap64 (a1)) 1455))) - 14))) : Int).toNat) (wrap64 (64 + (Int.tmod (wrap64 (a1)) 1455))) bt572.1 true))) else (none)) else (none)) = some r := by rw [if_pos rfl] at H; exact H
    clear H
    have H := H1
    clear H1
    obtain ⟨ji5, hji5⟩ : ∃ j_ : Int, (mn (a0.size : Int) (wrap64 ((wrap64 (64 + (Int.tmod (wrap64 (a1)) 1455))) - 14))) = j_ := ⟨_, rfl⟩
    replace H : (if 0 ≤ (ji5) then (if (ji5) ≤ (a0.size : Int) then ((frame_Data.f k 3 3 0 (a0.extract 0 ((ji5) : Int).toNat) (wrap64 (64 + (Int.tmod (wrap64 (a1)) 1455)))).bind fun bt572 => (if bt572.2 = 0 then (if (bt572.1.length : Int) = (wrap64 (64 + (Int.tmod (wrap64 (a1)) 1455))) then (if 10 ≤ (wrap64 (10 + ((a0.extract 0 ((ji5) : Int).toNat).size : Int))) then (if (wrap64 (10 + ((a0.extract 0 ((ji5) : Int).toNat).size : Int))) ≤ (bt572.1.length : Int) then (tocsinlaw06_FrameSizes.j0 k (a0.extract 0 ((ji5) : Int).toNat) (wrap64 (64 + (Int.tmod (wrap64 (a1)) 1455))) bt572.1 ((strOfNums ((bt572.1.take ((wrap64 (10 + ((a0.extract 0 ((ji5) : Int).toNat).size : Int))) : Int).toNat).drop 10)).toList != (a0.extract 0 ((ji5) : Int).toNat).toList)) else (none)) else (none)) else (tocsinlaw06_FrameSizes.j0 k (a0.extract 0 ((ji5) : Int).toNat) (wrap64 (64 + (Int.tmod (wrap64 (a1)) 1455))) bt572.1 true)) else (tocsinlaw06_FrameSizes.j0 k (a0.extract 0 ((ji5) : Int).toNat) (wrap64 (64 + (Int.tmod (wrap64 (a1)) 1455))) bt572.1 true))) else (none)) else (none)) = some r := by first | (rw [hji5] at H; exact H) | (simp only [hji5] at H ⊢; exact H)
    (try rw [hji5] at A3)
    have hji5_ : (if (wrap64 ((wrap64 (64 + (Int.tmod (wrap64 (a1)) 1455))) - 14)) < (a0.size : Int) then (wrap64 ((wrap64 (64 + (Int.tmod (wrap64 (a1)) 1455))) - 14)) else (a0.size : Int)) = ji5 := hji5
    by_cases c6 : 0 ≤ (ji5)
    · rw [if_pos c6] at H
      have c6b0 := eq_true c6
      have c6b1 : decide (0 ≤ (ji5)) = true := decide_eq_true c6
      clear c6
      by_cases c7 : (ji5) ≤ (a0.size : Int)
      · rw [if_pos c7] at H
        have c7b0 := eq_true c7
        have c7b1 : decide ((ji5) ≤ (a0.size : Int)) = true := decide_eq_true c7
        clear c7
        replace H := Option.bind_eq_some_iff.mp H
        obtain ⟨⟨t572, t575⟩, A80, H⟩ := H
        replace H : (if t575 = 0 then (if (t572.length : Int) = (wrap64 (64 + (Int.tmod (wrap64 (a1)) 1455))) then (if 10 ≤ (wrap64 (10 + ((a0.extract 0 ((ji5) : Int).toNat).size : Int))) then (if (wrap64 (10 + ((a0.extract 0 ((ji5) : Int).toNat).size : Int))) ≤ (t572.length : Int) then (tocsinlaw06_FrameSizes.j0 k (a0.extract 0 ((ji5) : Int).toNat) (wrap64 (64 + (Int.tmod (wrap64 (a1)) 1455))) t572 ((strOfNums ((t572.take ((wrap64 (10 + ((a0.extract 0 ((ji5) : Int).toNat).size : Int))) : Int).toNat).drop 10)).toList != (a0.extract 0 ((ji5) : Int).toNat).toList)) else (none)) else (none)) else (tocsinlaw06_FrameSizes.j0 k (a0.extract 0 ((ji5) : Int).toNat) (wrap64 (64 + (Int.tmod (wrap64 (a1)) 1455))) t572 true)) else (tocsinlaw06_FrameSizes.j0 k (a0.extract 0 ((ji5) : Int).toNat) (wrap64 (64 + (Int.tmod (wrap64 (a1)) 1455))) t572 true)) = some r := H
        have A8 := Aside0.mk A80
        clear A80
        have HC9 := Aside0.mk H
        clear H
        go_enter Try.func10, Try.ntmps10
        go_upto_region 6 with (first | ((with_reducible refine gate_callee (f := 11) rfl ?_); refine goesL_ (some 10) rfl rfl Try.func11 (by kernel_rfl) rfl #[] rfl (by (try simp only [List.map_toArray, List.map_cons, List.map_nil]); first | done | rfl | (simp only [List.length_drop, List.length_take]; rfl)) ?_; (with_reducible refine (tocsinlaw06_fixed.calls k  true _ A3.out).mono ?_); rintro e w10 ⟨rfl, hb⟩; refine ⟨_, rfl, ?_⟩; have n0_ := Aside0.mk (below_step (by repeat (first | (with_reducible first | exact HB.out | apply below_alloc | apply pw_below_drewN | apply below_drew1) | exact HB.out)) hb); clear HB; have HB := n0_; clear n0_; (try clear hb); (try clear hb2); (try clear hk); (try clear hi)) | ((with_reducible refine gate_callee (f := 17) rfl ?_); refine goesL_ (some 27) rfl rfl Try.func17 (by kernel_rfl) rfl #[.agg #[.int .i64 3, .int .i64 3, .int .i64 0, .string (a0.extract 0 ((ji5) : Int).toNat), .int .i64 (wrap64 (64 + (Int.tmod (wrap64 (a1)) 1455)))]] rfl (by (try simp only [List.map_toArray, List.map_cons, List.map_nil]); first | done | (simp only [hji5]; rfl) | rfl | (simp only [List.length_drop, List.length_take]; rfl)) ?_; (with_reducible refine (frame_Data.calls k 3 3 0 (a0.extract 0 ((ji5) : Int).toNat) (wrap64 (64 + (Int.tmod (wrap64 (a1)) 1455))) t572 t575 _ A8.out).mono ?_); rintro e w11 ⟨v573, rfl, ho0, hb⟩; refine ⟨_, rfl, ?_⟩; have n0_ := Aside0.mk (Kd.R_lower ho0 (below_size (by repeat (first | (with_reducible first | exact HB.out | apply below_alloc | apply pw_below_drewN | apply below_drew1) | exact HB.out)))); have n1_ := Aside0.mk (below_step (by repeat (first | (with_reducible first | exact HB.out | apply below_alloc | apply pw_below_drewN | apply below_drew1) | exact HB.out)) hb); clear HB; have HO574 := n0_; have HB := n1_; clear n0_ n1_; (try clear hb); (try clear hb2); (try clear hk); (try clear hi); (try clear ho0)))
        (try simp only [Act.put, List.setIfInBounds_toArray, List.set_cons_zero, List.set_cons_succ])
        go_cut [47] (fun v47 wc => ∃ (kq : Nat) (x47_8 : Bool), v47 = .bool x47_8 ∧ Aside0 (tocsinlaw06_FrameSizes.j0 kq (a0.extract 0 ((ji5) : Int).toNat) (wrap64 (64 + (Int.tmod (wrap64 (a1)) 1455))) t572 x47_8 = some r) ∧ Aside0 (kq ≤ k) ∧ Aside0 (Kd.R (Kd.int .u8) 5 wc w.heap.size (fun _ => True) v573 t572) ∧ Aside0 (Below w.heap.size w wc))
        case first =>
          have H := HC9.out
          clear HC9
          by_cases c12 : t575 = 0
          · rw [if_pos c12] at H
            have c12b0 : (t575 == 0) = true := beq_iff_eq.mpr c12
            have c12b1 : (t575 != 0) = false := bne_eq_false_iff_eq.mpr c12
            clear c12
            (first | rw [c12b0] | (simp only [i64_w, i32_w]; rw [c12b0]) | skip)
            by_cases c13 : (t572.length : Int) = (wrap64 (64 + (Int.tmod (wrap64 (a1)) 1455)))
            · rw [if_pos c13] at H
              have c13b0 : ((t572.length : Int) == (wrap64 (64 + (Int.tmod (wrap64 (a1)) 1455)))) = true := beq_iff_eq.mpr c13
              have c13b1 : ((t572.length : Int) != (wrap64 (64 + (Int.tmod (wrap64 (a1)) 1455)))) = false := bne_eq_false_iff_eq.mpr c13
              clear c13
              by_cases c14 : 10 ≤ (wrap64 (10 + ((a0.extract 0 ((ji5) : Int).toNat).size : Int)))
              · rw [if_pos c14] at H
                have c14b0 := eq_true c14
                have c14b1 : decide (10 ≤ (wrap64 (10 + ((a0.extract 0 ((ji5) : Int).toNat).size : Int)))) = true := decide_eq_true c14
                by_cases c15 : (wrap64 (10 + ((a0.extract 0 ((ji5) : Int).toNat).size : Int))) ≤ (t572.length : Int)
                · rw [if_pos c15] at H
                  have c15b0 := eq_true c15
                  have c15b1 : decide ((wrap64 (10 + ((a0.extract 0 ((ji5) : Int).toNat).size : Int))) ≤ (t572.length : Int)) = true := decide_eq_true c15
                  obtain ⟨y576, hy576⟩ : ∃ y_ : List Int, y_ = ((t572.take ((wrap64 (10 + ((a0.extract 0 ((ji5) : Int).toNat).size : Int))) : Int).toNat).drop 10) := ⟨_, rfl⟩
                  replace H : (tocsinlaw06_FrameSizes.j0 k (a0.extract 0 ((ji5) : Int).toNat) (wrap64 (64 + (Int.tmod (wrap64 (a1)) 1455))) t572 ((strOfNums y576).toList != (a0.extract 0 ((ji5) : Int).toNat).toList)) = some r := by first | (rw [hy576]; with_reducible exact H) | (have H2_ := (Option.bind_some _ _).symm.trans H; rw [hy576]; with_reducible exact H2_) | (have H2_ := (Option.bind_some _ _).symm.trans H; with_reducible exact H2_) | with_reducible exact H | (rw [hy576]; exact H) | exact H
                  have Ny576 := Aside0.mk hy576
                  clear hy576
                  have H' := Aside0.mk H
                  clear H
                  obtain ⟨Ao16, co16, eo16⟩ := Kd.R_slice HO574.out
                  subst eo16
                  have q17 : ((wrap64 (10 + ((a0.extract 0 ((ji5) : Int).toNat).size : Int))) : Int) ≤ ((t572.length : Int) : Int) := of_decide_eq_true (by first | (with_reducible assumption) | assumption)
                  obtain ⟨i017, hi017, _, hsz17, _⟩ := info_parts info5
                  have hroom17 : t572.length ≤ co16 := (Kd.R_reads' HO574.out).2.1
                  have hC17 : Kd.C (Kd.int .u8) _ Ao16 t572.length t572 := (Kd.R_reads' HO574.out).2.2
                  have ql17 : (10 : Int) ≤ ((wrap64 (10 + ((a0.extract 0 ((ji5) : Int).toNat).size : Int))) : Int) := of_decide_eq_true (by first | (with_reducible assumption) | assumption)
                  have hcut17 := cut_mid (P := Try.prog) 26 5 .i64 .i64 Try.underlying26 hi017 1 hsz17 Ao16 t572.length co16 10 (wrap64 (10 + ((a0.extract 0 ((ji5) : Int).toNat).size : Int))) (by omega) ql17 q17 hroom17
                  have hr17 := Kd.C_mid (lo := (10 : Int).toNat) (hi := ((wrap64 (10 + ((a0.extract 0 ((ji5) : Int).toNat).size : Int))) : Int).toNat) (c := co16) hC17 (by omega) (by omega) hroom17
                  obtain ⟨A17, hA17⟩ : ∃ A1, A1 = (if co16 = (10 : Int).toNat then Ao16 else (Ao16 : Option Addr).map (·.add ((10 : Int).toNat * 1))) := ⟨_, rfl⟩
                  obtain ⟨c17, hc17⟩ : ∃ c1, c1 = co16 - (10 : Int).toNat := ⟨_, rfl⟩
                  have hy17 : y576.length = ((wrap64 (10 + ((a0.extract 0 ((ji5) : Int).toNat).size : Int))) : Int).toNat - (10 : Int).toNat := (by rw [Ny576.out, List.length_drop, List.length_take, Nat.min_eq_left (Int.toNat_le.2 q17)]; rfl)
                  rw [show ((t572).take ((wrap64 (10 + ((a0.extract 0 ((ji5) : Int).toNat).size : Int))) : Int).toNat).drop (10 : Int).toNat = y576 from Ny576.out.symm] at hr17
                  replace hr17 : Kd.C (Kd.int .u8) _ A17 y576.length y576 := (by rw [hA17]; exact hr17)
                  rw [← hy17, ← hA17, ← hc17] at hcut17
                  have HR579 := Aside0.mk hr17
                  have HC579 := Aside0.mk (show y576.length ≤ c17 from by rw [hy17, hc17]; exact Nat.sub_le_sub_right (Nat.le_trans (Int.toNat_le.2 q17) hroom17) _)
                  clear hr17 hC17 hroom17 hi017 hsz17 hc17
                  have KY17 := Aside0.mk hy17
                  have KA17 := Aside0.mk hA17
                  clear hy17 hA17
                  (try simp only [hji5] at hcut17)
                  have KL17 := Aside0.mk (show ((wrap64 (10 + ((a0.extract 0 ((ji5) : Int).toNat).size : Int))) : Int).toNat ≤ t572.length from by omega)
                  have KM17 := Aside0.mk (show 10 ≤ ((wrap64 (10 + ((a0.extract 0 ((ji5) : Int).toNat).size : Int))) : Int).toNat from by omega)
                  replace q17 := eq_true q17
                  have hcv18 := Kd.C_string (P := Try.prog) (A := A17) (c := c17) Try.underlying26 Try.underlying5 Try.underlying9 (by repeat (first | (with_reducible exact HR579.out) | (with_reducible refine Kd.C_alloc ?_ _) | (with_reducible refine Kd.C_drewN ?_ _) | (with_reducible refine Kd.C_drew ?_) | exact HR579.out))
                  go_wp2
                  go_meet
                  case rel => exact ⟨_, (((strOfNums y576).toList != (a0.extract 0 ((ji5) : Int).toNat).toList)), (by first | rfl | (simp; done) | (simp only [← hji5] <;> (first | rfl | simp)) | (simp [*]; done)), H', ⟨by first | omega | exact Nat.le_refl _⟩, ⟨by (with_reducible repeat (first | apply Kd.R_alloc | apply Kd.R_drewN | apply Kd.R_drew)); exact HO574.out⟩, ⟨by repeat (first | (with_reducible first | exact HB.out | apply below_alloc | apply pw_below_drewN | apply below_drew1) | exact HB.out)⟩⟩
                · rw [if_neg c15] at H
                  exact absurd H (by simp)
              · rw [if_neg c14] at H
                exact absurd H (by simp)
            · rw [if_neg c13] at H
              have c13b0 : ((t572.length : Int) == (wrap64 (64 + (Int.tmod (wrap64 (a1)) 1455)))) = false := beq_eq_false_iff_ne.mpr c13
              have c13b1 : ((t572.length : Int) != (wrap64 (64 + (Int.tmod (wrap64 (a1)) 1455)))) = true := bne_iff_ne.mpr c13
              have H' := Aside0.mk H
              clear H
              obtain ⟨Ao19, co19, eo19⟩ := Kd.R_slice HO574.out
              subst eo19
              go_wp2
              go_meet
              case rel => exact ⟨_, (true), (by first | rfl | (simp; done) | (simp [*]; done)), H', ⟨by first | omega | exact Nat.le_refl _⟩, ⟨by (with_reducible repeat (first | apply Kd.R_alloc | apply Kd.R_drewN | apply Kd.R_drew)); exact HO574.out⟩, ⟨by repeat (first | (with_reducible first | exact HB.out | apply below_alloc | apply pw_below_drewN | apply below_drew1) | exact HB.out)⟩⟩
          · rw [if_neg c12] at H
            have c12b0 : (t575 == 0) = false := beq_eq_false_iff_ne.mpr c12
            have c12b1 : (t575 != 0) = true := bne_iff_ne.mpr c12
            (first | rw [c12b0] | (simp only [i64_w, i32_w]; rw [c12b0]) | skip)
            have H' := Aside0.mk H
            clear H
            go_wp2
            go_meet
            case rel => exact ⟨_, (true), (by first | rfl | (simp; done) | (simp [*]; done)), H', ⟨by first | omega | exact Nat.le_refl _⟩, ⟨by (with_reducible repeat (first | apply Kd.R_alloc | apply Kd.R_drewN | apply Kd.R_drew)); exact HO574.out⟩, ⟨by repeat (first | (with_reducible first | exact HB.out | apply below_alloc | apply pw_below_drewN | apply below_drew1) | exact HB.out)⟩⟩
        case rest =>
          clear HC9
          try clear c1
          try clear q1
          try clear hcv1
          try clear p2
          try clear c4
          try clear c6
          try clear c6b0
          try clear c6b1
          try clear p6
          try clear c7
          try clear c7b0
          try clear c7b1
          try clear c10
          try clear c11
          try clear c12
          try clear c12b0
          try clear c12b1
          try clear c13
          try clear c13b0
          try clear c13b1
          try clear c14
          try clear c14b0
          try clear c14b1
          try clear c15
          try clear c15b0
          try clear c15b1
          try clear c17
          try clear q17
          try clear hcv18
          try clear q17
          obtain ⟨kq, x47_8, rfl, HA, HJ8, HO_6, HB⟩ := hcut
          cases kq with
          | zero => exact absurd HA.out (by simp [tocsinlaw06_FrameSizes.j0])
          | succ kj8 =>
            have H := HA.out
            clear HA
            simp only [tocsinlaw06_FrameSizes.j0] at H
            by_cases c20 : x47_8 = true
            · subst c20
              have H1 : (none) = some r := by rw [if_pos rfl] at H; exact H
              clear H
              have H := H1
              clear H1
              exact absurd H (by simp)
            · replace c20 := Bool.eq_false_iff.mpr c20
              subst c20
              have H1 : (if 0 ≤ (wrap64 (10 + ((a0.extract 0 ((ji5) : Int).toNat).size : Int))) then (if (wrap64 (10 + ((a0.extract 0 ((ji5) : Int).toNat).size : Int))) ≤ (wrap64 ((wrap64 (64 + (Int.tmod (wrap64 (a1)) 1455))) - 4)) then (if (wrap64 ((wrap64 (64 + (Int.tmod (wrap64 (a1)) 1455))) - 4)) ≤ (t572.length : Int) then ((some ((t572.take ((wrap64 ((wrap64 (64 + (Int.tmod (wrap64 (a1)) 1455))) - 4)) : Int).toNat).drop ((wrap64 (10 + ((a0.extract 0 ((ji5) : Int).toNat).size : Int))) : Int).toNat : List Int)).bind fun y580 => (tocsinlaw06_FrameSizes.l0 kj8 (wrap64 (64 + (Int.tmod (wrap64 (a1)) 1455))) y580 (y580.length : Int) 0)) else (none)) else (none)) else (none)) = some r := by rw [if_neg (show ¬ (false = true) by decide)] at H; exact H
              clear H
              have H := H1
              clear H1
              obtain ⟨ji21, hji21⟩ : ∃ j_ : Int, (wrap64 (10 + ((a0.extract 0 ((ji5) : Int).toNat).size : Int))) = j_ := ⟨_, rfl⟩
              replace H : (if 0 ≤ (ji21) then (if (ji21) ≤ (wrap64 ((wrap64 (64 + (Int.tmod (wrap64 (a1)) 1455))) - 4)) then (if (wrap64 ((wrap64 (64 + (Int.tmod (wrap64 (a1)) 1455))) - 4)) ≤ (t572.length : Int) then ((some ((t572.take ((wrap64 ((wrap64 (64 + (Int.tmod (wrap64 (a1)) 1455))) - 4)) : Int).toNat).drop ((ji21) : Int).toNat : List Int)).bind fun y580 => (tocsinlaw06_FrameSizes.l0 kj8 (wrap64 (64 + (Int.tmod (wrap64 (a1)) 1455))) y580 (y580.length : Int) 0)) else (none)) else (none)) else (none)) = some r := by first | (rw [hji21] at H; exact H) | (simp only [hji21] at H ⊢; exact H)
              have hji21w : (IntKind.i64.wrap (10 + ((a0.extract 0 ((ji5) : Int).toNat).size : Int))) = ji21 := (i64_w _).trans hji21
              by_cases c22 : 0 ≤ (ji21)
              · rw [if_pos c22] at H
                have c22b0 := eq_true c22
                have c22b1 : decide (0 ≤ (ji21)) = true := decide_eq_true c22
                clear c22
                by_cases c23 : (ji21) ≤ (wrap64 ((wrap64 (64 + (Int.tmod (wrap64 (a1)) 1455))) - 4))
                · rw [if_pos c23] at H
                  have c23b0 := eq_true c23
                  have c23b1 : decide ((ji21) ≤ (wrap64 ((wrap64 (64 + (Int.tmod (wrap64 (a1)) 1455))) - 4))) = true := decide_eq_true c23
                  by_cases c24 : (wrap64 ((wrap64 (64 + (Int.tmod (wrap64 (a1)) 1455))) - 4)) ≤ (t572.length : Int)
                  · rw [if_pos c24] at H
                    have c24b0 := eq_true c24
                    have c24b1 : decide ((wrap64 ((wrap64 (64 + (Int.tmod (wrap64 (a1)) 1455))) - 4)) ≤ (t572.length : Int)) = true := decide_eq_true c24
                    obtain ⟨y580, hy580⟩ : ∃ y_ : List Int, y_ = ((t572.take ((wrap64 ((wrap64 (64 + (Int.tmod (wrap64 (a1)) 1455))) - 4)) : Int).toNat).drop ((ji21) : Int).toNat) := ⟨_, rfl⟩
                    replace H : (tocsinlaw06_FrameSizes.l0 kj8 (wrap64 (64 + (Int.tmod (wrap64 (a1)) 1455))) y580 (y580.length : Int) 0) = some r := by first | (rw [hy580]; with_reducible exact H) | (have H2_ := (Option.bind_some _ _).symm.trans H; rw [hy580]; with_reducible exact H2_) | (have H2_ := (Option.bind_some _ _).symm.trans H; with_reducible exact H2_) | with_reducible exact H | (rw [hy580]; exact H) | exact H
                    have Ny580 := Aside0.mk hy580
                    clear hy580
                    have H' := Aside0.mk H
                    clear H
                    obtain ⟨Ao26, co26, eo26⟩ := Kd.R_slice HO_6.out
                    subst eo26
                    have q25 : ((wrap64 ((wrap64 (64 + (Int.tmod (wrap64 (a1)) 1455))) - 4)) : Int) ≤ ((t572.length : Int) : Int) := of_decide_eq_true (by first | (with_reducible assumption) | assumption)
                    obtain ⟨i025, hi025, _, hsz25, _⟩ := info_parts info5
                    have hroom25 : t572.length ≤ co26 := (Kd.R_reads' HO_6.out).2.1
                    have hC25 : Kd.C (Kd.int .u8) _ Ao26 t572.length t572 := (Kd.R_reads' HO_6.out).2.2
                    have ql25 : ((ji21) : Int) ≤ ((wrap64 ((wrap64 (64 + (Int.tmod (wrap64 (a1)) 1455))) - 4)) : Int) := of_decide_eq_true (by first | (with_reducible assumption) | assumption)
                    have q025 : (0 : Int) ≤ ((ji21) : Int) := of_decide_eq_true (by first | (with_reducible assumption) | assumption)
                    have hcut25 := cut_mid (P := Try.prog) 26 5 .i64 .i64 Try.underlying26 hi025 1 hsz25 Ao26 t572.length co26 (ji21) (wrap64 ((wrap64 (64 + (Int.tmod (wrap64 (a1)) 1455))) - 4)) q025 ql25 q25 hroom25
                    have hr25 := Kd.C_mid (lo := ((ji21) : Int).toNat) (hi := ((wrap64 ((wrap64 (64 + (Int.tmod (wrap64 (a1)) 1455))) - 4)) : Int).toNat) (c := co26) hC25 (by omega) (by omega) hroom25
                    obtain ⟨A25, hA25⟩ : ∃ A1, A1 = (if co26 = ((ji21) : Int).toNat then Ao26 else (Ao26 : Option Addr).map (·.add (((ji21) : Int).toNat * 1))) := ⟨_, rfl⟩
                    obtain ⟨c25, hc25⟩ : ∃ c1, c1 = co26 - ((ji21) : Int).toNat := ⟨_, rfl⟩
                    have hy25 : y580.length = ((wrap64 ((wrap64 (64 + (Int.tmod (wrap64 (a1)) 1455))) - 4)) : Int).toNat - ((ji21) : Int).toNat := (by rw [Ny580.out, List.length_drop, List.length_take] <;> omega)
                    rw [show ((t572).take ((wrap64 ((wrap64 (64 + (Int.tmod (wrap64 (a1)) 1455))) - 4)) : Int).toNat).drop ((ji21) : Int).toNat = y580 from Ny580.out.symm] at hr25
                    replace hr25 : Kd.C (Kd.int .u8) _ A25 y580.length y580 := (by rw [hA25]; exact hr25)
                    rw [← hy25, ← hA25, ← hc25] at hcut25
                    have HR583 := Aside0.mk hr25
                    have HC583 := Aside0.mk (show y580.length ≤ c25 from by rw [hy25, hc25]; exact Nat.sub_le_sub_right (Nat.le_trans (by omega) hroom25) _)
                    clear hr25 hC25 hroom25 hi025 hsz25 hc25
                    have KY25 := Aside0.mk hy25
                    have KA25 := Aside0.mk hA25
                    clear hy25 hA25
                    (try simp only [hji5] at hcut25)
                    (try simp only [hji21] at hcut25)
                    have KL25 := Aside0.mk (show ((wrap64 ((wrap64 (64 + (Int.tmod (wrap64 (a1)) 1455))) - 4)) : Int).toNat ≤ t572.length from by omega)
                    have KM25 := Aside0.mk (show ((ji21) : Int).toNat ≤ ((wrap64 ((wrap64 (64 + (Int.tmod (wrap64 (a1)) 1455))) - 4)) : Int).toNat from by omega)
                    replace q25 := eq_true q25
                    go_wp2
                    go_loopg [56] kj8 (fun kq v56 w' => ∃ (x56_2 : Int), v56 = .int .i64 x56_2 ∧ Aside0 (tocsinlaw06_FrameSizes.l0 kq (wrap64 (64 + (Int.tmod (wrap64 (a1)) 1455))) y580 (y580.length : Int) x56_2 = some r) ∧ Aside0 (kq ≤ kj8) ∧ Aside0 (Kd.C (Kd.int .u8) w' A25 y580.length y580) ∧ Aside0 (Below w.heap.size w w'))
                    case atStart => exact ⟨(0), (by first | rfl | (simp; done) | (simp [*]; done)), H', ⟨Nat.le_refl _⟩, ⟨by repeat (first | (with_reducible exact HR583.out) | (with_reducible refine Kd.C_alloc ?_ _) | (with_reducible refine Kd.C_drewN ?_ _) | (with_reducible refine Kd.C_drew ?_) | exact HR583.out)⟩, ⟨by repeat (first | (with_reducible first | exact HB.out | apply below_alloc | apply pw_below_drewN | apply below_drew1) | exact HB.out)⟩⟩
                    case round =>
                      clear H'
                      try clear c1
                      try clear q1
                      try clear hcv1
                      try clear c2
                      try clear p2
                      try clear q2
                      try clear c4
                      try clear c6
                      try clear c6b0
                      try clear c6b1
                      try clear p6
                      try clear c7
                      try clear c7b0
                      try clear c7b1
                      try clear c10
                      try clear c11
                      try clear c12
                      try clear c12b0
                      try clear c12b1
                      try clear c13
                      try clear c13b0
                      try clear c13b1
                      try clear c14
                      try clear c14b0
                      try clear c14b1
                      try clear c15
                      try clear c15b0
                      try clear c15b1
                      try clear c17
                      try clear q17
                      try clear hcv18
                      try clear c20
                      try clear c22
                      try clear c22b0
                      try clear c22b1
                      try clear c23
                      try clear c23b0
                      try clear c23b1
                      try clear c24
                      try clear c24b0
                      try clear c24b1
                      try clear c25
                      try clear q25
                      try clear p2
                      try clear p6
                      try clear q025
                      try clear q1
                      try clear q17
                      try clear q25
                      obtain ⟨x56_2, rfl, HA, HK2, HR583, HB⟩ := hrel
                      cases gk with
                      | zero => exact absurd HA.out (by simp [tocsinlaw06_FrameSizes.l0])
                      | succ k2 =>
                        have H := HA.out
                        clear HA
                        simp only [tocsinlaw06_FrameSizes.l0] at H
                        by_cases c27 : x56_2 < (y580.length : Int)
                        · rw [if_pos c27] at H
                          have c27b0 : decide (x56_2 < (y580.length : Int)) = true := decide_eq_true c27
                          clear c27
                          by_cases c28 : 0 ≤ x56_2
                          · rw [if_pos c28] at H
                            have c28b0 : decide (0 ≤ x56_2) = true := decide_eq_true c28
                            clear c28
                            by_cases c29 : x56_2 < (y580.length : Int)
                            · rw [if_pos c29] at H
                              have c29b0 : decide (x56_2 < (y580.length : Int)) = true := decide_eq_true c29
                              clear c29
                              by_cases c30 : (rd y580 x56_2) = 0
                              · rw [if_pos c30] at H
                                have c30b0 : ((rd y580 x56_2) == 0) = true := beq_iff_eq.mpr c30
                                have c30b1 : ((rd y580 x56_2) != 0) = false := bne_eq_false_iff_eq.mpr c30
                                clear c30
                                have H' := Aside0.mk H
                                clear H
                                have p584 : 0 ≤ (x56_2 : Int) := of_decide_eq_true (by first | (with_reducible assumption) | assumption)
                                have q584 : x56_2 < (y580.length : Int) := of_decide_eq_true (by first | (with_reducible assumption) | assumption)
                                obtain ⟨ad584, e584, hx584_0⟩ := Kd.at_int HR583.out x56_2 p584 q584
                                cases e584
                                replace p584 := eq_true p584
                                replace q584 := eq_true q584
                                go_wp2
                                go_roundg k2
                                case measure => have := HJ8.out; have := HK2.out; omega
                                case rel => exact ⟨(wrap64 (x56_2 + 1)), (by first | rfl | (simp; done) | (simp [*]; done)), H', ⟨by have := HJ8.out; have := HK2.out; omega⟩, ⟨by repeat (first | (with_reducible exact HR583.out) | (with_reducible refine Kd.C_alloc ?_ _) | (with_reducible refine Kd.C_drewN ?_ _) | (with_reducible refine Kd.C_drew ?_) | exact HR583.out)⟩, ⟨by repeat (first | (with_reducible first | exact HB.out | apply below_alloc | apply pw_below_drewN | apply below_drew1) | exact HB.out)⟩⟩
                              · rw [if_neg c30] at H
                                exact absurd H (by simp)
                            · rw [if_neg c29] at H
                              exact absurd H (by simp)
                          · rw [if_neg c28] at H
                            exact absurd H (by simp)
                        · rw [if_neg c27] at H
                          have c27b0 : decide (x56_2 < (y580.length : Int)) = false := decide_eq_false c27
                          clear c27
                          replace H := Option.bind_eq_some_iff.mp H
                          obtain ⟨t585, A310, H⟩ := H
                          replace H : (some (t585 == (wrap64 (8 * (wrap64 (64 + (Int.tmod (wrap64 (a1)) 1455))))))) = some r := H
                          have A31 := Aside0.mk A310
                          clear A310
                          obtain rfl := Option.some.inj H
                          go_wp2_with (first | ((with_reducible refine gate_callee (f := 25) rfl ?_); refine goesL_ (some 64) rfl rfl Try.func25 (by kernel_rfl) rfl #[.int .i64 (wrap64 (64 + (Int.tmod (wrap64 (a1)) 1455)))] rfl (by (try simp only [List.map_toArray, List.map_cons, List.map_nil]); first | done | rfl | (simp only [List.length_drop, List.length_take]; rfl)) ?_; (with_reducible refine (frame_Time.calls (wrap64 (64 + (Int.tmod (wrap64 (a1)) 1455))) t585 _ A31.out).mono ?_); rintro e w32 ⟨rfl, hb⟩; refine ⟨_, rfl, ?_⟩; have n0_ := Aside0.mk (Kd.C_below (by repeat (first | (with_reducible exact HR583.out) | (with_reducible refine Kd.C_alloc ?_ _) | (with_reducible refine Kd.C_drewN ?_ _) | (with_reducible refine Kd.C_drew ?_) | exact HR583.out)) hb); have n1_ := Aside0.mk (below_step (by repeat (first | (with_reducible first | exact HB.out | apply below_alloc | apply pw_below_drewN | apply below_drew1) | exact HB.out)) hb); clear HR583; clear HB; have HR583 := n0_; have HB := n1_; clear n0_ n1_; (try clear hb); (try clear hb2); (try clear hk); (try clear hi)))
                          go_ret
                          exact ⟨by first | rfl | (simp [errW_none, errW_some] <;> rfl) | (simp only [← hji5, ← hji21]; first | rfl | (simp [errW_none, errW_some] <;> rfl)) | (simp [*, errW_none, errW_some] <;> rfl), by repeat (first | (with_reducible first | exact HB.out | apply below_alloc | apply pw_below_drewN | apply below_drew1) | exact HB.out)⟩
                  · rw [if_neg c24] at H
                    exact absurd H (by simp)
                · rw [if_neg c23] at H
                  exact absurd H (by simp)
              · rw [if_neg c22] at H
                exact absurd H (by simp)
      · rw [if_neg c7] at H
        exact absurd H (by simp)
    · rw [if_neg c6] at H
      exact absurd H (by simp)
  · replace c4 := Bool.eq_false_iff.mpr c4
    subst c4
    have H1 : (none) = some r := by rw [if_neg (show ¬ (false = true) by decide)] at H; exact H
    clear H
    have H := H1
    clear H1
    exact absurd H (by simp)

/-- THE ONE PURE STATEMENT of tocsinlaw06_FrameSizes: yours. -/
def tocsinlaw06_FrameSizes.Pure : Prop := ∀ (a0 : ByteArray) (a1 : Int), a0.size ≤ 140737488351232 → (Lit.int .u16 a1).wf = true → ∃ k, tocsinlaw06_FrameSizes.f k a0 a1 = some true
theorem tocsinlaw06_FrameSizes.walk (P : tocsinlaw06_FrameSizes.Pure) (a0 : ByteArray) (a1 : Int) (w : World) (w0 : a0.size ≤ 140737488351232) (w1 : (Lit.int .u16 a1).wf = true) :
    Calls Try.prog 10 #[.string a0, .int .u16 a1] w fun e w' => e = .returned (.bool true) ∧ Below w.heap.size w w' := by
  obtain ⟨k, h⟩ := P a0 a1 w0 w1
  refine (tocsinlaw06_FrameSizes.calls k a0 a1 true w h).mono ?_
  rintro e w' ⟨rfl, hd⟩
  exact ⟨rfl, hd⟩

end Go.Proofs.Ytgeheedfmdlefaa.PF
