/- The functions that the law runs, each as a Lean function with its proof; written and laid together by a program for this claim. -/
import Derived.Test.YtgeheedfmdlefaaFrameReadsFns0
import Derived.Test.YtgeheedfmdlefaaFrameReadsFns1
import Derived.Test.YtgeheedfmdlefaaFrameReadsFns3
import Derived.Test.YtgeheedfmdlefaaFrameReadsFns4
section
namespace Go.Proofs.Ytgeheedfmdlefaa.PF
open Go.RowKit Go.Proofs.YtgeheedfmdlefaaW.PrintWords Go.Proofs.YtgeheedfmdlefaaW.PrintLast Go.Proofs.YtgeheedfmdlefaaW.PrintMore Go.Proofs.Ytgeheedfmdlefaa.Conv
attribute [local go_sem] max2_int min2_int max_two min_two max_three min_three max_four min_four   -- for this text's walks alone
set_option linter.unusedVariables false
set_option linter.unusedSimpArgs false

attribute [local go_sem high] eqA24 eqA36
/-! ### lw_FrameReads: function 5 -/
def lw_FrameReads.j0 : Nat → List Int → Int → Int → Bool → Int → Int → Int → Int → Int → Int → Int → Int → ByteArray → Int → Option (Bool)
 | 0, _, _, _, _, _, _, _, _, _, _, _, _, _, _ => none
 | k + 1, x0, x4, x6, x69, x462000, x462001, x462002, x462003, x462004, x469000, x469001, x469002, x469003, x469004 => if x69 = true then (none) else (if x4 = 0 then ((frame_Control.f k x462000 x462001 x462002 x462003 x462004).bind fun bt485 => (if bt485.2 = 0 then (some ((strOfNums bt485.1).toList == (strOfNums x0).toList)) else (none))) else (if x6 = 0 then ((frame_Data.f k x469000 x469001 x469002 x469003 x469004).bind fun bt489 => (if bt489.2 = 0 then (some ((strOfNums bt489.1).toList == (strOfNums x0).toList)) else (none))) else (some true)))
def lw_FrameReads.f (k : Nat) (l0 : List Int) : Option (Bool) := (lw_fixed.f k).bind fun t454 => (if t454 = true then ((frame_ReadControl.f k l0).bind fun bt455 => ((frame_ReadData.f k l0).bind fun bt462 => ((rf_ReadControl.f k l0).bind fun bt469 => ((rf_ReadData.f k l0).bind fun bt476 => (if (!(bt455.1 == bt469.1) || (!(bt455.2.1 == bt469.2.1) || (!(bt455.2.2.1 == bt469.2.2.1) || (!(bt455.2.2.2.1 == bt469.2.2.2.1) || (!(bt455.2.2.2.2.1 == bt469.2.2.2.2.1)))))) = true then (lw_FrameReads.j0 k l0 bt455.2.2.2.2.2 bt462.2.2.2.2.2 true bt455.1 bt455.2.1 bt455.2.2.1 bt455.2.2.2.1 bt455.2.2.2.2.1 bt462.1 bt462.2.1 bt462.2.2.1 bt462.2.2.2.1 bt462.2.2.2.2.1) else (if bt455.2.2.2.2.2 = bt469.2.2.2.2.2 then (if (!(bt462.1 == bt476.1) || (!(bt462.2.1 == bt476.2.1) || (!(bt462.2.2.1 == bt476.2.2.1) || (!(bt462.2.2.2.1.toList == bt476.2.2.2.1.toList) || (!(bt462.2.2.2.2.1 == bt476.2.2.2.2.1)))))) = true then (lw_FrameReads.j0 k l0 bt455.2.2.2.2.2 bt462.2.2.2.2.2 true bt455.1 bt455.2.1 bt455.2.2.1 bt455.2.2.2.1 bt455.2.2.2.2.1 bt462.1 bt462.2.1 bt462.2.2.1 bt462.2.2.2.1 bt462.2.2.2.2.1) else (if bt462.2.2.2.2.2 = bt476.2.2.2.2.2 then ((frame_Sum.f k l0).bind fun t483 => ((rf_Sum.f k l0).bind fun t484 => (if t483 = t484 then (if bt455.2.2.2.2.2 = 0 then (lw_FrameReads.j0 k l0 bt455.2.2.2.2.2 bt462.2.2.2.2.2 (bt462.2.2.2.2.2 == 0) bt455.1 bt455.2.1 bt455.2.2.1 bt455.2.2.2.1 bt455.2.2.2.2.1 bt462.1 bt462.2.1 bt462.2.2.1 bt462.2.2.2.1 bt462.2.2.2.2.1) else (lw_FrameReads.j0 k l0 bt455.2.2.2.2.2 bt462.2.2.2.2.2 false bt455.1 bt455.2.1 bt455.2.2.1 bt455.2.2.2.1 bt455.2.2.2.2.1 bt462.1 bt462.2.1 bt462.2.2.1 bt462.2.2.2.1 bt462.2.2.2.2.1)) else (lw_FrameReads.j0 k l0 bt455.2.2.2.2.2 bt462.2.2.2.2.2 true bt455.1 bt455.2.1 bt455.2.2.1 bt455.2.2.2.1 bt455.2.2.2.2.1 bt462.1 bt462.2.1 bt462.2.2.1 bt462.2.2.2.1 bt462.2.2.2.2.1)))) else (lw_FrameReads.j0 k l0 bt455.2.2.2.2.2 bt462.2.2.2.2.2 true bt455.1 bt455.2.1 bt455.2.2.1 bt455.2.2.2.1 bt455.2.2.2.2.1 bt462.1 bt462.2.1 bt462.2.2.1 bt462.2.2.2.1 bt462.2.2.2.2.1))) else (lw_FrameReads.j0 k l0 bt455.2.2.2.2.2 bt462.2.2.2.2.2 true bt455.1 bt455.2.1 bt455.2.2.1 bt455.2.2.2.1 bt455.2.2.2.2.1 bt462.1 bt462.2.1 bt462.2.2.1 bt462.2.2.2.1 bt462.2.2.2.2.1))))))) else (none))
theorem lw_FrameReads.mono_l : ∀ k, (∀ y0 y1 y2 y3 y4 y5 y6 y7 y8 y9 y10 y11 y12 y13, LeO (lw_FrameReads.j0 k y0 y1 y2 y3 y4 y5 y6 y7 y8 y9 y10 y11 y12 y13) (lw_FrameReads.j0 (k + 1) y0 y1 y2 y3 y4 y5 y6 y7 y8 y9 y10 y11 y12 y13))
 | 0 => fun _ _ _ _ _ _ _ _ _ _ _ _ _ _ r h => by simp [lw_FrameReads.j0] at h
 | k + 1 => by
  have ih0 := lw_FrameReads.mono_l k
  ·intro y0 y1 y2 y3 y4 y5 y6 y7 y8 y9 y10 y11 y12 y13
   unfold lw_FrameReads.j0
   repeat' first
   | (with_reducible exact ih0 _ _ _ _ _ _ _ _ _ _ _ _ _ _)
   | (with_reducible exact frame_Control.mono _ _ _ _ _ _)
   | (with_reducible exact frame_Data.mono _ _ _ _ _ _)
   | (with_reducible exact frame_ReadControl.mono _ _)
   | (with_reducible exact frame_ReadData.mono _ _)
   | (with_reducible exact frame_Sum.mono _ _)
   | (with_reducible exact lw_fixed.mono _)
   | (with_reducible exact rf_ReadControl.mono _ _)
   | (with_reducible exact rf_ReadData.mono _ _)
   | (with_reducible exact rf_Sum.mono _ _)
   | (with_reducible exact LeO.refl _)
   | (with_reducible exact LeO.none _)
   | (with_reducible refine LeO.ite ?_ ?_)
   | (with_reducible refine LeO.bind ?_ (fun _ => ?_))
   | exact ih0 _ _ _ _ _ _ _ _ _ _ _ _ _ _
   | exact frame_Control.mono _ _ _ _ _ _
   | exact frame_Data.mono _ _ _ _ _ _
   | exact frame_ReadControl.mono _ _
   | exact frame_ReadData.mono _ _
   | exact frame_Sum.mono _ _
   | exact lw_fixed.mono _
   | exact rf_ReadControl.mono _ _
   | exact rf_ReadData.mono _ _
   | exact rf_Sum.mono _ _
   | exact LeO.none _
   | refine LeO.ite ?_ ?_
   | refine LeO.bind ?_ (fun _ => ?_)
theorem lw_FrameReads.mono : ∀ a0 k, LeO (lw_FrameReads.f k a0) (lw_FrameReads.f (k + 1) a0) := by
 intro a0 k
 have ih0 := lw_FrameReads.mono_l k
 unfold lw_FrameReads.f
 repeat' first
   | (with_reducible exact ih0 _ _ _ _ _ _ _ _ _ _ _ _ _ _)
   | (with_reducible exact frame_Control.mono _ _ _ _ _ _)
   | (with_reducible exact frame_Data.mono _ _ _ _ _ _)
   | (with_reducible exact frame_ReadControl.mono _ _)
   | (with_reducible exact frame_ReadData.mono _ _)
   | (with_reducible exact frame_Sum.mono _ _)
   | (with_reducible exact lw_fixed.mono _)
   | (with_reducible exact rf_ReadControl.mono _ _)
   | (with_reducible exact rf_ReadData.mono _ _)
   | (with_reducible exact rf_Sum.mono _ _)
   | (with_reducible exact LeO.refl _)
   | (with_reducible exact LeO.none _)
   | (with_reducible refine LeO.ite ?_ ?_)
   | (with_reducible refine LeO.bind ?_ (fun _ => ?_))
   | exact ih0 _ _ _ _ _ _ _ _ _ _ _ _ _ _
   | exact frame_Control.mono _ _ _ _ _ _
   | exact frame_Data.mono _ _ _ _ _ _
   | exact frame_ReadControl.mono _ _
   | exact frame_ReadData.mono _ _
   | exact frame_Sum.mono _ _
   | exact lw_fixed.mono _
   | exact rf_ReadControl.mono _ _
   | exact rf_ReadData.mono _ _
   | exact rf_Sum.mono _ _
   | exact LeO.none _
   | refine LeO.ite ?_ ?_
   | refine LeO.bind ?_ (fun _ => ?_)
set_option maxHeartbeats 8000000 in
set_option maxRecDepth 100000 in
theorem lw_FrameReads.calls (k : Nat) (A0 : Option Addr) (c0 : Nat) (l0 : List Int) (r : Bool) (w : World) (hr0 : Kd.C (Kd.int .u8) w A0 l0.length l0) (hc0 : l0.length ≤ c0) (h : lw_FrameReads.f k l0 = some r) :
  Calls Try.prog 5 #[.slice A0 l0.length c0] w fun e w' => e = .returned (.bool r) ∧ Below w.heap.size w w' := by
 have hu24 := Try.underlying24
 have hu36 := Try.underlying36
 have HR0 := Azz.mk hr0
 have HC0 := Azz.mk hc0
 clear hr0 hc0
 have HB := Azz.mk (Below.refl w.heap.size w)
 have H : ((lw_fixed.f k).bind fun t454 => (if t454 = true then ((frame_ReadControl.f k l0).bind fun bt455 => ((frame_ReadData.f k l0).bind fun bt462 => ((rf_ReadControl.f k l0).bind fun bt469 => ((rf_ReadData.f k l0).bind fun bt476 => (if (!(bt455.1 == bt469.1) || (!(bt455.2.1 == bt469.2.1) || (!(bt455.2.2.1 == bt469.2.2.1) || (!(bt455.2.2.2.1 == bt469.2.2.2.1) || (!(bt455.2.2.2.2.1 == bt469.2.2.2.2.1)))))) = true then (lw_FrameReads.j0 k l0 bt455.2.2.2.2.2 bt462.2.2.2.2.2 true bt455.1 bt455.2.1 bt455.2.2.1 bt455.2.2.2.1 bt455.2.2.2.2.1 bt462.1 bt462.2.1 bt462.2.2.1 bt462.2.2.2.1 bt462.2.2.2.2.1) else (if bt455.2.2.2.2.2 = bt469.2.2.2.2.2 then (if (!(bt462.1 == bt476.1) || (!(bt462.2.1 == bt476.2.1) || (!(bt462.2.2.1 == bt476.2.2.1) || (!(bt462.2.2.2.1.toList == bt476.2.2.2.1.toList) || (!(bt462.2.2.2.2.1 == bt476.2.2.2.2.1)))))) = true then (lw_FrameReads.j0 k l0 bt455.2.2.2.2.2 bt462.2.2.2.2.2 true bt455.1 bt455.2.1 bt455.2.2.1 bt455.2.2.2.1 bt455.2.2.2.2.1 bt462.1 bt462.2.1 bt462.2.2.1 bt462.2.2.2.1 bt462.2.2.2.2.1) else (if bt462.2.2.2.2.2 = bt476.2.2.2.2.2 then ((frame_Sum.f k l0).bind fun t483 => ((rf_Sum.f k l0).bind fun t484 => (if t483 = t484 then (if bt455.2.2.2.2.2 = 0 then (lw_FrameReads.j0 k l0 bt455.2.2.2.2.2 bt462.2.2.2.2.2 (bt462.2.2.2.2.2 == 0) bt455.1 bt455.2.1 bt455.2.2.1 bt455.2.2.2.1 bt455.2.2.2.2.1 bt462.1 bt462.2.1 bt462.2.2.1 bt462.2.2.2.1 bt462.2.2.2.2.1) else (lw_FrameReads.j0 k l0 bt455.2.2.2.2.2 bt462.2.2.2.2.2 false bt455.1 bt455.2.1 bt455.2.2.1 bt455.2.2.2.1 bt455.2.2.2.2.1 bt462.1 bt462.2.1 bt462.2.2.1 bt462.2.2.2.1 bt462.2.2.2.2.1)) else (lw_FrameReads.j0 k l0 bt455.2.2.2.2.2 bt462.2.2.2.2.2 true bt455.1 bt455.2.1 bt455.2.2.1 bt455.2.2.2.1 bt455.2.2.2.2.1 bt462.1 bt462.2.1 bt462.2.2.1 bt462.2.2.2.1 bt462.2.2.2.2.1)))) else (lw_FrameReads.j0 k l0 bt455.2.2.2.2.2 bt462.2.2.2.2.2 true bt455.1 bt455.2.1 bt455.2.2.1 bt455.2.2.2.1 bt455.2.2.2.2.1 bt462.1 bt462.2.1 bt462.2.2.1 bt462.2.2.2.1 bt462.2.2.2.2.1))) else (lw_FrameReads.j0 k l0 bt455.2.2.2.2.2 bt462.2.2.2.2.2 true bt455.1 bt455.2.1 bt455.2.2.1 bt455.2.2.2.1 bt455.2.2.2.2.1 bt462.1 bt462.2.1 bt462.2.2.1 bt462.2.2.2.1 bt462.2.2.2.2.1))))))) else (none))) = some r := h
 clear h
 replace H := Option.bind_eq_some_iff.mp H
 obtain ⟨t454, A20, H⟩ := H
 replace H : (if t454 = true then ((frame_ReadControl.f k l0).bind fun bt455 => ((frame_ReadData.f k l0).bind fun bt462 => ((rf_ReadControl.f k l0).bind fun bt469 => ((rf_ReadData.f k l0).bind fun bt476 => (if (!(bt455.1 == bt469.1) || (!(bt455.2.1 == bt469.2.1) || (!(bt455.2.2.1 == bt469.2.2.1) || (!(bt455.2.2.2.1 == bt469.2.2.2.1) || (!(bt455.2.2.2.2.1 == bt469.2.2.2.2.1)))))) = true then (lw_FrameReads.j0 k l0 bt455.2.2.2.2.2 bt462.2.2.2.2.2 true bt455.1 bt455.2.1 bt455.2.2.1 bt455.2.2.2.1 bt455.2.2.2.2.1 bt462.1 bt462.2.1 bt462.2.2.1 bt462.2.2.2.1 bt462.2.2.2.2.1) else (if bt455.2.2.2.2.2 = bt469.2.2.2.2.2 then (if (!(bt462.1 == bt476.1) || (!(bt462.2.1 == bt476.2.1) || (!(bt462.2.2.1 == bt476.2.2.1) || (!(bt462.2.2.2.1.toList == bt476.2.2.2.1.toList) || (!(bt462.2.2.2.2.1 == bt476.2.2.2.2.1)))))) = true then (lw_FrameReads.j0 k l0 bt455.2.2.2.2.2 bt462.2.2.2.2.2 true bt455.1 bt455.2.1 bt455.2.2.1 bt455.2.2.2.1 bt455.2.2.2.2.1 bt462.1 bt462.2.1 bt462.2.2.1 bt462.2.2.2.1 bt462.2.2.2.2.1) else (if bt462.2.2.2.2.2 = bt476.2.2.2.2.2 then ((frame_Sum.f k l0).bind fun t483 => ((rf_Sum.f k l0).bind fun t484 => (if t483 = t484 then (if bt455.2.2.2.2.2 = 0 then (lw_FrameReads.j0 k l0 bt455.2.2.2.2.2 bt462.2.2.2.2.2 (bt462.2.2.2.2.2 == 0) bt455.1 bt455.2.1 bt455.2.2.1 bt455.2.2.2.1 bt455.2.2.2.2.1 bt462.1 bt462.2.1 bt462.2.2.1 bt462.2.2.2.1 bt462.2.2.2.2.1) else (lw_FrameReads.j0 k l0 bt455.2.2.2.2.2 bt462.2.2.2.2.2 false bt455.1 bt455.2.1 bt455.2.2.1 bt455.2.2.2.1 bt455.2.2.2.2.1 bt462.1 bt462.2.1 bt462.2.2.1 bt462.2.2.2.1 bt462.2.2.2.2.1)) else (lw_FrameReads.j0 k l0 bt455.2.2.2.2.2 bt462.2.2.2.2.2 true bt455.1 bt455.2.1 bt455.2.2.1 bt455.2.2.2.1 bt455.2.2.2.2.1 bt462.1 bt462.2.1 bt462.2.2.1 bt462.2.2.2.1 bt462.2.2.2.2.1)))) else (lw_FrameReads.j0 k l0 bt455.2.2.2.2.2 bt462.2.2.2.2.2 true bt455.1 bt455.2.1 bt455.2.2.1 bt455.2.2.2.1 bt455.2.2.2.2.1 bt462.1 bt462.2.1 bt462.2.2.1 bt462.2.2.2.1 bt462.2.2.2.2.1))) else (lw_FrameReads.j0 k l0 bt455.2.2.2.2.2 bt462.2.2.2.2.2 true bt455.1 bt455.2.1 bt455.2.2.1 bt455.2.2.2.1 bt455.2.2.2.2.1 bt462.1 bt462.2.1 bt462.2.2.1 bt462.2.2.2.1 bt462.2.2.2.2.1))))))) else (none)) = some r := H
 have A2 := Azz.mk A20
 clear A20
 by_cases c3 : t454 = true
 ·subst c3
  have H1 : ((frame_ReadControl.f k l0).bind fun bt455 => ((frame_ReadData.f k l0).bind fun bt462 => ((rf_ReadControl.f k l0).bind fun bt469 => ((rf_ReadData.f k l0).bind fun bt476 => (if (!(bt455.1 == bt469.1) || (!(bt455.2.1 == bt469.2.1) || (!(bt455.2.2.1 == bt469.2.2.1) || (!(bt455.2.2.2.1 == bt469.2.2.2.1) || (!(bt455.2.2.2.2.1 == bt469.2.2.2.2.1)))))) = true then (lw_FrameReads.j0 k l0 bt455.2.2.2.2.2 bt462.2.2.2.2.2 true bt455.1 bt455.2.1 bt455.2.2.1 bt455.2.2.2.1 bt455.2.2.2.2.1 bt462.1 bt462.2.1 bt462.2.2.1 bt462.2.2.2.1 bt462.2.2.2.2.1) else (if bt455.2.2.2.2.2 = bt469.2.2.2.2.2 then (if (!(bt462.1 == bt476.1) || (!(bt462.2.1 == bt476.2.1) || (!(bt462.2.2.1 == bt476.2.2.1) || (!(bt462.2.2.2.1.toList == bt476.2.2.2.1.toList) || (!(bt462.2.2.2.2.1 == bt476.2.2.2.2.1)))))) = true then (lw_FrameReads.j0 k l0 bt455.2.2.2.2.2 bt462.2.2.2.2.2 true bt455.1 bt455.2.1 bt455.2.2.1 bt455.2.2.2.1 bt455.2.2.2.2.1 bt462.1 bt462.2.1 bt462.2.2.1 bt462.2.2.2.1 bt462.2.2.2.2.1) else (if bt462.2.2.2.2.2 = bt476.2.2.2.2.2 then ((frame_Sum.f k l0).bind fun t483 => ((rf_Sum.f k l0).bind fun t484 => (if t483 = t484 then (if bt455.2.2.2.2.2 = 0 then (lw_FrameReads.j0 k l0 bt455.2.2.2.2.2 bt462.2.2.2.2.2 (bt462.2.2.2.2.2 == 0) bt455.1 bt455.2.1 bt455.2.2.1 bt455.2.2.2.1 bt455.2.2.2.2.1 bt462.1 bt462.2.1 bt462.2.2.1 bt462.2.2.2.1 bt462.2.2.2.2.1) else (lw_FrameReads.j0 k l0 bt455.2.2.2.2.2 bt462.2.2.2.2.2 false bt455.1 bt455.2.1 bt455.2.2.1 bt455.2.2.2.1 bt455.2.2.2.2.1 bt462.1 bt462.2.1 bt462.2.2.1 bt462.2.2.2.1 bt462.2.2.2.2.1)) else (lw_FrameReads.j0 k l0 bt455.2.2.2.2.2 bt462.2.2.2.2.2 true bt455.1 bt455.2.1 bt455.2.2.1 bt455.2.2.2.1 bt455.2.2.2.2.1 bt462.1 bt462.2.1 bt462.2.2.1 bt462.2.2.2.1 bt462.2.2.2.2.1)))) else (lw_FrameReads.j0 k l0 bt455.2.2.2.2.2 bt462.2.2.2.2.2 true bt455.1 bt455.2.1 bt455.2.2.1 bt455.2.2.2.1 bt455.2.2.2.2.1 bt462.1 bt462.2.1 bt462.2.2.1 bt462.2.2.2.1 bt462.2.2.2.2.1))) else (lw_FrameReads.j0 k l0 bt455.2.2.2.2.2 bt462.2.2.2.2.2 true bt455.1 bt455.2.1 bt455.2.2.1 bt455.2.2.2.1 bt455.2.2.2.2.1 bt462.1 bt462.2.1 bt462.2.2.1 bt462.2.2.2.1 bt462.2.2.2.2.1))))))) = some r := by rw [if_pos rfl] at H; exact H
  clear H
  have H := H1
  clear H1
  replace H := Option.bind_eq_some_iff.mp H
  obtain ⟨⟨t455, t456, t457, t458, t459, t460⟩, A40, H⟩ := H
  replace H : ((frame_ReadData.f k l0).bind fun bt462 => ((rf_ReadControl.f k l0).bind fun bt469 => ((rf_ReadData.f k l0).bind fun bt476 => (if (!(t455 == bt469.1) || (!(t456 == bt469.2.1) || (!(t457 == bt469.2.2.1) || (!(t458 == bt469.2.2.2.1) || (!(t459 == bt469.2.2.2.2.1)))))) = true then (lw_FrameReads.j0 k l0 t460 bt462.2.2.2.2.2 true t455 t456 t457 t458 t459 bt462.1 bt462.2.1 bt462.2.2.1 bt462.2.2.2.1 bt462.2.2.2.2.1) else (if t460 = bt469.2.2.2.2.2 then (if (!(bt462.1 == bt476.1) || (!(bt462.2.1 == bt476.2.1) || (!(bt462.2.2.1 == bt476.2.2.1) || (!(bt462.2.2.2.1.toList == bt476.2.2.2.1.toList) || (!(bt462.2.2.2.2.1 == bt476.2.2.2.2.1)))))) = true then (lw_FrameReads.j0 k l0 t460 bt462.2.2.2.2.2 true t455 t456 t457 t458 t459 bt462.1 bt462.2.1 bt462.2.2.1 bt462.2.2.2.1 bt462.2.2.2.2.1) else (if bt462.2.2.2.2.2 = bt476.2.2.2.2.2 then ((frame_Sum.f k l0).bind fun t483 => ((rf_Sum.f k l0).bind fun t484 => (if t483 = t484 then (if t460 = 0 then (lw_FrameReads.j0 k l0 t460 bt462.2.2.2.2.2 (bt462.2.2.2.2.2 == 0) t455 t456 t457 t458 t459 bt462.1 bt462.2.1 bt462.2.2.1 bt462.2.2.2.1 bt462.2.2.2.2.1) else (lw_FrameReads.j0 k l0 t460 bt462.2.2.2.2.2 false t455 t456 t457 t458 t459 bt462.1 bt462.2.1 bt462.2.2.1 bt462.2.2.2.1 bt462.2.2.2.2.1)) else (lw_FrameReads.j0 k l0 t460 bt462.2.2.2.2.2 true t455 t456 t457 t458 t459 bt462.1 bt462.2.1 bt462.2.2.1 bt462.2.2.2.1 bt462.2.2.2.2.1)))) else (lw_FrameReads.j0 k l0 t460 bt462.2.2.2.2.2 true t455 t456 t457 t458 t459 bt462.1 bt462.2.1 bt462.2.2.1 bt462.2.2.2.1 bt462.2.2.2.2.1))) else (lw_FrameReads.j0 k l0 t460 bt462.2.2.2.2.2 true t455 t456 t457 t458 t459 bt462.1 bt462.2.1 bt462.2.2.1 bt462.2.2.2.1 bt462.2.2.2.2.1)))))) = some r := H
  have A4 := Azz.mk A40
  clear A40
  replace H := Option.bind_eq_some_iff.mp H
  obtain ⟨⟨t462, t463, t464, t465, t466, t467⟩, A50, H⟩ := H
  replace H : ((rf_ReadControl.f k l0).bind fun bt469 => ((rf_ReadData.f k l0).bind fun bt476 => (if (!(t455 == bt469.1) || (!(t456 == bt469.2.1) || (!(t457 == bt469.2.2.1) || (!(t458 == bt469.2.2.2.1) || (!(t459 == bt469.2.2.2.2.1)))))) = true then (lw_FrameReads.j0 k l0 t460 t467 true t455 t456 t457 t458 t459 t462 t463 t464 t465 t466) else (if t460 = bt469.2.2.2.2.2 then (if (!(t462 == bt476.1) || (!(t463 == bt476.2.1) || (!(t464 == bt476.2.2.1) || (!(t465.toList == bt476.2.2.2.1.toList) || (!(t466 == bt476.2.2.2.2.1)))))) = true then (lw_FrameReads.j0 k l0 t460 t467 true t455 t456 t457 t458 t459 t462 t463 t464 t465 t466) else (if t467 = bt476.2.2.2.2.2 then ((frame_Sum.f k l0).bind fun t483 => ((rf_Sum.f k l0).bind fun t484 => (if t483 = t484 then (if t460 = 0 then (lw_FrameReads.j0 k l0 t460 t467 (t467 == 0) t455 t456 t457 t458 t459 t462 t463 t464 t465 t466) else (lw_FrameReads.j0 k l0 t460 t467 false t455 t456 t457 t458 t459 t462 t463 t464 t465 t466)) else (lw_FrameReads.j0 k l0 t460 t467 true t455 t456 t457 t458 t459 t462 t463 t464 t465 t466)))) else (lw_FrameReads.j0 k l0 t460 t467 true t455 t456 t457 t458 t459 t462 t463 t464 t465 t466))) else (lw_FrameReads.j0 k l0 t460 t467 true t455 t456 t457 t458 t459 t462 t463 t464 t465 t466))))) = some r := H
  have A5 := Azz.mk A50
  clear A50
  replace H := Option.bind_eq_some_iff.mp H
  obtain ⟨⟨t469, t470, t471, t472, t473, t474⟩, A60, H⟩ := H
  replace H : ((rf_ReadData.f k l0).bind fun bt476 => (if (!(t455 == t469) || (!(t456 == t470) || (!(t457 == t471) || (!(t458 == t472) || (!(t459 == t473)))))) = true then (lw_FrameReads.j0 k l0 t460 t467 true t455 t456 t457 t458 t459 t462 t463 t464 t465 t466) else (if t460 = t474 then (if (!(t462 == bt476.1) || (!(t463 == bt476.2.1) || (!(t464 == bt476.2.2.1) || (!(t465.toList == bt476.2.2.2.1.toList) || (!(t466 == bt476.2.2.2.2.1)))))) = true then (lw_FrameReads.j0 k l0 t460 t467 true t455 t456 t457 t458 t459 t462 t463 t464 t465 t466) else (if t467 = bt476.2.2.2.2.2 then ((frame_Sum.f k l0).bind fun t483 => ((rf_Sum.f k l0).bind fun t484 => (if t483 = t484 then (if t460 = 0 then (lw_FrameReads.j0 k l0 t460 t467 (t467 == 0) t455 t456 t457 t458 t459 t462 t463 t464 t465 t466) else (lw_FrameReads.j0 k l0 t460 t467 false t455 t456 t457 t458 t459 t462 t463 t464 t465 t466)) else (lw_FrameReads.j0 k l0 t460 t467 true t455 t456 t457 t458 t459 t462 t463 t464 t465 t466)))) else (lw_FrameReads.j0 k l0 t460 t467 true t455 t456 t457 t458 t459 t462 t463 t464 t465 t466))) else (lw_FrameReads.j0 k l0 t460 t467 true t455 t456 t457 t458 t459 t462 t463 t464 t465 t466)))) = some r := H
  have A6 := Azz.mk A60
  clear A60
  replace H := Option.bind_eq_some_iff.mp H
  obtain ⟨⟨t476, t477, t478, t479, t480, t481⟩, A70, H⟩ := H
  replace H : (if (!(t455 == t469) || (!(t456 == t470) || (!(t457 == t471) || (!(t458 == t472) || (!(t459 == t473)))))) = true then (lw_FrameReads.j0 k l0 t460 t467 true t455 t456 t457 t458 t459 t462 t463 t464 t465 t466) else (if t460 = t474 then (if (!(t462 == t476) || (!(t463 == t477) || (!(t464 == t478) || (!(t465.toList == t479.toList) || (!(t466 == t480)))))) = true then (lw_FrameReads.j0 k l0 t460 t467 true t455 t456 t457 t458 t459 t462 t463 t464 t465 t466) else (if t467 = t481 then ((frame_Sum.f k l0).bind fun t483 => ((rf_Sum.f k l0).bind fun t484 => (if t483 = t484 then (if t460 = 0 then (lw_FrameReads.j0 k l0 t460 t467 (t467 == 0) t455 t456 t457 t458 t459 t462 t463 t464 t465 t466) else (lw_FrameReads.j0 k l0 t460 t467 false t455 t456 t457 t458 t459 t462 t463 t464 t465 t466)) else (lw_FrameReads.j0 k l0 t460 t467 true t455 t456 t457 t458 t459 t462 t463 t464 t465 t466)))) else (lw_FrameReads.j0 k l0 t460 t467 true t455 t456 t457 t458 t459 t462 t463 t464 t465 t466))) else (lw_FrameReads.j0 k l0 t460 t467 true t455 t456 t457 t458 t459 t462 t463 t464 t465 t466))) = some r := H
  have A7 := Azz.mk A70
  clear A70
  have HC8 := Azz.mk H
  clear H
  go_enter Try.func5, Try.ntmps5
  go_upto_region 7 with (first | ((with_reducible refine gate_callee (f := 11) rfl ?_); refine goesL_ (some 15) rfl rfl Try.func11 (by kernel_rfl) rfl #[] rfl (by (try simp only [List.map_toArray, List.map_cons, List.map_nil]); first | done | rfl | (simp only [List.length_drop, List.length_take]; rfl)) ?_; (with_reducible refine (lw_fixed.calls k  true _ A2.out).mono ?_); rintro e w9 ⟨rfl, hb⟩; refine ⟨_, rfl, ?_⟩; have n0_ := Azz.mk (below_step (by repeat (first | (with_reducible first | exact HB.out | apply bal | apply pbN | apply bd1) | exact HB.out)) hb); clear HB; have HB := n0_; clear n0_; (try clear hb); (try clear hb2); (try clear hk); (try clear hi)) | ((with_reducible refine gate_callee (f := 14) rfl ?_); refine goesL_ (some 19) rfl rfl Try.func14 (by kernel_rfl) rfl #[.slice A0 l0.length c0] rfl (by (try simp only [List.map_toArray, List.map_cons, List.map_nil]); first | done | rfl | (simp only [List.length_drop, List.length_take]; rfl)) ?_; (with_reducible refine (frame_ReadControl.calls k _ _ l0 t455 t456 t457 t458 t459 t460 _ ?side1 ?side2 A4.out).mono ?_); (case side1 => repeat (first | exact (Kd.C_below HR0.out HB.out) | (with_reducible refine Kd.C_alloc ?_ _) | (with_reducible refine Kd.C_drewN ?_ _) | (with_reducible refine Kd.C_drew ?_))); (case side2 => exact HC0.out); rintro e w10 ⟨rfl, hb⟩; refine ⟨_, rfl, ?_⟩; have n0_ := Azz.mk (below_step (by repeat (first | (with_reducible first | exact HB.out | apply bal | apply pbN | apply bd1) | exact HB.out)) hb); clear HB; have HB := n0_; clear n0_; (try clear hb); (try clear hb2); (try clear hk); (try clear hi)) | ((with_reducible refine gate_dst (N := 3) rfl ?_); refine box_event ?hg (N := 3) ?hd (cs := #[.int .i64 0, .int .i64 0, .int .i64 0, .int .u32 0, .int .i64 0]) (t := 24) ?hr ?_; (case hd => rfl); (case hg => rfl); (case hr => first | (go_simp; done) | (go_simp; rfl)); intro gb461 hg w11 hbox hb; have n0_ := Azz.mk (below_step (by repeat (first | (with_reducible first | exact HB.out | apply bal | apply pbN | apply bd1) | exact HB.out)) hb); have n1_ := Azz.mk (hbox); have n2_ := Azz.mk ((by rw [hg]; exact (below_size (by repeat (first | (with_reducible first | exact HB.out | apply bal | apply pbN | apply bd1) | exact HB.out))) : w.heap.size ≤ gb461)); have n3_ := Azz.mk ((by rw [hg]; exact (below_size (by repeat (first | (with_reducible first | exact HB.out | apply bal | apply pbN | apply bd1) | exact HB.out))) : w.heap.size ≤ gb461)); clear HB; have HB := n0_; have BK461 := n1_; have GW461 := n2_; have GE461 := n3_; clear n0_ n1_ n2_ n3_; clear hb hbox hg; have hcz12_0 : World.cell? _ ⟨gb461, 0, none⟩ = some (.int .i64 0) := (kcl BK461.out 0).trans rfl; have hcz12_1 : World.cell? _ ⟨gb461, 1, none⟩ = some (.int .i64 0) := (kcl BK461.out 1).trans rfl; have hcz12_2 : World.cell? _ ⟨gb461, 2, none⟩ = some (.int .i64 0) := (kcl BK461.out 2).trans rfl; have hcz12_3 : World.cell? _ ⟨gb461, 3, none⟩ = some (.int .u32 0) := (kcl BK461.out 3).trans rfl; have hcz12_4 : World.cell? _ ⟨gb461, 4, none⟩ = some (.int .i64 0) := (kcl BK461.out 4).trans rfl; have hfz12_0 := kfz BK461.out 0; have hfz12_1 := kfz BK461.out 1; have hfz12_2 := kfz BK461.out 2; have hfz12_3 := kfz BK461.out 3; have hfz12_4 := kfz BK461.out 4) | ((with_reducible refine gate_callee (f := 19) rfl ?_); refine goesL_ (some 24) rfl rfl Try.func19 (by kernel_rfl) rfl #[.slice A0 l0.length c0] rfl (by (try simp only [List.map_toArray, List.map_cons, List.map_nil]); first | done | rfl | (simp only [List.length_drop, List.length_take]; rfl)) ?_; (with_reducible refine (frame_ReadData.calls k _ _ l0 t462 t463 t464 t465 t466 t467 _ ?side1 ?side2 A5.out).mono ?_); (case side1 => exact Kd.C_below HR0.out (by repeat (first | (with_reducible first | exact HB.out | apply bal | apply pbN | apply bd1 | refine bst ?_ GE461.out) | exact HB.out))); (case side2 => exact HC0.out); rintro e w13 ⟨rfl, hb⟩; refine ⟨_, rfl, ?_⟩; have n0_ := Azz.mk (blk_below (g := gb461) (o := .cells #[.int .i64 t455, .int .i64 t456, .int .i64 t457, .int .u32 t458, .int .i64 t459] 24 (0, 0)) (by (with_reducible repeat (first | refine kdN ?_ _ | refine kd1 ?_ | refine kal ?_ _)); refine blk_put (cs := #[.int .i64 t455, .int .i64 t456, .int .i64 t457, .int .u32 t458, .int .i64 0]) ?_ 4 _ rfl; (with_reducible repeat (first | refine kdN ?_ _ | refine kd1 ?_ | refine kal ?_ _)); refine blk_put (cs := #[.int .i64 t455, .int .i64 t456, .int .i64 t457, .int .u32 0, .int .i64 0]) ?_ 3 _ rfl; (with_reducible repeat (first | refine kdN ?_ _ | refine kd1 ?_ | refine kal ?_ _)); refine blk_put (cs := #[.int .i64 t455, .int .i64 t456, .int .i64 0, .int .u32 0, .int .i64 0]) ?_ 2 _ rfl; (with_reducible repeat (first | refine kdN ?_ _ | refine kd1 ?_ | refine kal ?_ _)); refine blk_put (cs := #[.int .i64 t455, .int .i64 0, .int .i64 0, .int .u32 0, .int .i64 0]) ?_ 1 _ rfl; (with_reducible repeat (first | refine kdN ?_ _ | refine kd1 ?_ | refine kal ?_ _)); refine blk_put (cs := #[.int .i64 0, .int .i64 0, .int .i64 0, .int .u32 0, .int .i64 0]) ?_ 0 _ rfl; (with_reducible repeat (first | refine kdN ?_ _ | refine kd1 ?_ | refine kal ?_ _)); exact BK461.out) hb); have n1_ := Azz.mk (below_step (by repeat (first | (with_reducible first | exact HB.out | apply bal | apply pbN | apply bd1 | refine bst ?_ GE461.out) | exact HB.out)) hb); clear BK461; clear HB; have BK461 := n0_; have HB := n1_; clear n0_ n1_; (try clear hb); (try clear hb2); (try clear hk); (try clear hi)) | ((with_reducible refine gate_dst (N := 5) rfl ?_); refine box_event ?hg (N := 5) ?hd (cs := #[.int .i64 0, .int .i64 0, .int .i64 0, .string (⟨#[]⟩ : ByteArray), .int .i64 0]) (t := 36) ?hr ?_; (case hd => rfl); (case hg => rfl); (case hr => first | (go_simp; done) | (go_simp; rfl)); intro gb468 hg w14 hbox hb; have n0_ := Azz.mk (blk_below (g := gb461) (o := .cells #[.int .i64 t455, .int .i64 t456, .int .i64 t457, .int .u32 t458, .int .i64 t459] 24 (0, 0)) (by (with_reducible repeat (first | refine kdN ?_ _ | refine kd1 ?_ | refine kal ?_ _)); exact BK461.out) hb); have n1_ := Azz.mk (below_step (by repeat (first | (with_reducible first | exact HB.out | apply bal | apply pbN | apply bd1 | refine bst ?_ GE461.out) | exact HB.out)) hb); have n2_ := Azz.mk (hbox); have n3_ := Azz.mk ((by rw [hg]; exact (below_size (by repeat (first | (with_reducible first | exact HB.out | apply bal | apply pbN | apply bd1 | refine bst ?_ GE461.out) | exact HB.out))) : w.heap.size ≤ gb468)); have n4_ := Azz.mk ((by rw [hg]; exact (below_size (by repeat (first | (with_reducible first | exact HB.out | apply bal | apply pbN | apply bd1 | refine bst ?_ GE461.out) | exact HB.out))) : w.heap.size ≤ gb468)); have n5_ := Azz.mk ((by rw [hg]; exact Nat.ne_of_lt (blk_lt (g := gb461) (o := .cells #[.int .i64 t455, .int .i64 t456, .int .i64 t457, .int .u32 t458, .int .i64 t459] 24 (0, 0)) (by (with_reducible repeat (first | refine kdN ?_ _ | refine kd1 ?_ | refine kal ?_ _)); exact BK461.out)) : gb461 ≠ gb468)); have n6_ := Azz.mk ((by rw [hg]; exact Nat.ne_of_gt (blk_lt (g := gb461) (o := .cells #[.int .i64 t455, .int .i64 t456, .int .i64 t457, .int .u32 t458, .int .i64 t459] 24 (0, 0)) (by (with_reducible repeat (first | refine kdN ?_ _ | refine kd1 ?_ | refine kal ?_ _)); exact BK461.out)) : gb468 ≠ gb461)); clear BK461; clear HB; have BK461 := n0_; have HB := n1_; have BK468 := n2_; have GW468 := n3_; have GE468 := n4_; have NB461_468 := n5_; have NB468_461 := n6_; clear n0_ n1_ n2_ n3_ n4_ n5_ n6_; clear hb hbox hg; have hnb15 := NB468_461.out; have hnc15 := NB461_468.out; have hcz16_0 : World.cell? _ ⟨gb468, 0, none⟩ = some (.int .i64 0) := (kcl BK468.out 0).trans rfl; have hcz16_1 : World.cell? _ ⟨gb468, 1, none⟩ = some (.int .i64 0) := (kcl BK468.out 1).trans rfl; have hcz16_2 : World.cell? _ ⟨gb468, 2, none⟩ = some (.int .i64 0) := (kcl BK468.out 2).trans rfl; have hcz16_3 : World.cell? _ ⟨gb468, 3, none⟩ = some (.string (⟨#[]⟩ : ByteArray)) := (kcl BK468.out 3).trans rfl; have hcz16_4 : World.cell? _ ⟨gb468, 4, none⟩ = some (.int .i64 0) := (kcl BK468.out 4).trans rfl; have hfz16_0 := kfz BK468.out 0; have hfz16_1 := kfz BK468.out 1; have hfz16_2 := kfz BK468.out 2; have hfz16_3 := kfz BK468.out 3; have hfz16_4 := kfz BK468.out 4) | ((with_reducible refine gate_callee (f := 21) rfl ?_); refine goesL_ (some 29) rfl rfl Try.func21 (by kernel_rfl) rfl #[.slice A0 l0.length c0] rfl (by (try simp only [List.map_toArray, List.map_cons, List.map_nil]); first | done | rfl | (simp only [List.length_drop, List.length_take]; rfl)) ?_; (with_reducible refine (rf_ReadControl.calls k _ _ l0 t469 t470 t471 t472 t473 t474 _ ?side1 ?side2 A6.out).mono ?_); (case side1 => exact Kd.C_below HR0.out (by repeat (first | (with_reducible first | exact HB.out | apply bal | apply pbN | apply bd1 | refine bst ?_ GE461.out | refine bst ?_ GE468.out) | exact HB.out))); (case side2 => exact HC0.out); rintro e w17 ⟨rfl, hb⟩; refine ⟨_, rfl, ?_⟩; have n0_ := Azz.mk (blk_below (g := gb461) (o := .cells #[.int .i64 t455, .int .i64 t456, .int .i64 t457, .int .u32 t458, .int .i64 t459] 24 (0, 0)) (by (with_reducible repeat (first | refine kdN ?_ _ | refine kd1 ?_ | refine kal ?_ _)); refine blk_far ?_ NB461_468.out _; (with_reducible repeat (first | refine kdN ?_ _ | refine kd1 ?_ | refine kal ?_ _)); refine blk_far ?_ NB461_468.out _; (with_reducible repeat (first | refine kdN ?_ _ | refine kd1 ?_ | refine kal ?_ _)); refine blk_far ?_ NB461_468.out _; (with_reducible repeat (first | refine kdN ?_ _ | refine kd1 ?_ | refine kal ?_ _)); refine blk_far ?_ NB461_468.out _; (with_reducible repeat (first | refine kdN ?_ _ | refine kd1 ?_ | refine kal ?_ _)); refine blk_far ?_ NB461_468.out _; (with_reducible repeat (first | refine kdN ?_ _ | refine kd1 ?_ | refine kal ?_ _)); exact BK461.out) hb); have n1_ := Azz.mk (blk_below (g := gb468) (o := .cells #[.int .i64 t462, .int .i64 t463, .int .i64 t464, .string t465, .int .i64 t466] 36 (0, 0)) (by (with_reducible repeat (first | refine kdN ?_ _ | refine kd1 ?_ | refine kal ?_ _)); refine blk_put (cs := #[.int .i64 t462, .int .i64 t463, .int .i64 t464, .string t465, .int .i64 0]) ?_ 4 _ rfl; (with_reducible repeat (first | refine kdN ?_ _ | refine kd1 ?_ | refine kal ?_ _)); refine blk_put (cs := #[.int .i64 t462, .int .i64 t463, .int .i64 t464, .string (⟨#[]⟩ : ByteArray), .int .i64 0]) ?_ 3 _ rfl; (with_reducible repeat (first | refine kdN ?_ _ | refine kd1 ?_ | refine kal ?_ _)); refine blk_put (cs := #[.int .i64 t462, .int .i64 t463, .int .i64 0, .string (⟨#[]⟩ : ByteArray), .int .i64 0]) ?_ 2 _ rfl; (with_reducible repeat (first | refine kdN ?_ _ | refine kd1 ?_ | refine kal ?_ _)); refine blk_put (cs := #[.int .i64 t462, .int .i64 0, .int .i64 0, .string (⟨#[]⟩ : ByteArray), .int .i64 0]) ?_ 1 _ rfl; (with_reducible repeat (first | refine kdN ?_ _ | refine kd1 ?_ | refine kal ?_ _)); refine blk_put (cs := #[.int .i64 0, .int .i64 0, .int .i64 0, .string (⟨#[]⟩ : ByteArray), .int .i64 0]) ?_ 0 _ rfl; (with_reducible repeat (first | refine kdN ?_ _ | refine kd1 ?_ | refine kal ?_ _)); exact BK468.out) hb); have n2_ := Azz.mk (below_step (by repeat (first | (with_reducible first | exact HB.out | apply bal | apply pbN | apply bd1 | refine bst ?_ GE461.out | refine bst ?_ GE468.out) | exact HB.out)) hb); clear BK461; clear BK468; clear HB; have BK461 := n0_; have BK468 := n1_; have HB := n2_; clear n0_ n1_ n2_; (try clear hb); (try clear hb2); (try clear hk); (try clear hi)) | ((with_reducible refine gate_dst (N := 7) rfl ?_); refine box_event ?hg (N := 7) ?hd (cs := #[.int .i64 0, .int .i64 0, .int .i64 0, .int .u32 0, .int .i64 0]) (t := 24) ?hr ?_; (case hd => rfl); (case hg => rfl); (case hr => first | (go_simp; done) | (go_simp; rfl)); intro gb475 hg w18 hbox hb; have n0_ := Azz.mk (blk_below (g := gb461) (o := .cells #[.int .i64 t455, .int .i64 t456, .int .i64 t457, .int .u32 t458, .int .i64 t459] 24 (0, 0)) (by (with_reducible repeat (first | refine kdN ?_ _ | refine kd1 ?_ | refine kal ?_ _)); exact BK461.out) hb); have n1_ := Azz.mk (blk_below (g := gb468) (o := .cells #[.int .i64 t462, .int .i64 t463, .int .i64 t464, .string t465, .int .i64 t466] 36 (0, 0)) (by (with_reducible repeat (first | refine kdN ?_ _ | refine kd1 ?_ | refine kal ?_ _)); exact BK468.out) hb); have n2_ := Azz.mk (below_step (by repeat (first | (with_reducible first | exact HB.out | apply bal | apply pbN | apply bd1 | refine bst ?_ GE461.out | refine bst ?_ GE468.out) | exact HB.out)) hb); have n3_ := Azz.mk (hbox); have n4_ := Azz.mk ((by rw [hg]; exact (below_size (by repeat (first | (with_reducible first | exact HB.out | apply bal | apply pbN | apply bd1 | refine bst ?_ GE461.out | refine bst ?_ GE468.out) | exact HB.out))) : w.heap.size ≤ gb475)); have n5_ := Azz.mk ((by rw [hg]; exact (below_size (by repeat (first | (with_reducible first | exact HB.out | apply bal | apply pbN | apply bd1 | refine bst ?_ GE461.out | refine bst ?_ GE468.out) | exact HB.out))) : w.heap.size ≤ gb475)); have n6_ := Azz.mk ((by rw [hg]; exact Nat.ne_of_lt (blk_lt (g := gb461) (o := .cells #[.int .i64 t455, .int .i64 t456, .int .i64 t457, .int .u32 t458, .int .i64 t459] 24 (0, 0)) (by (with_reducible repeat (first | refine kdN ?_ _ | refine kd1 ?_ | refine kal ?_ _)); exact BK461.out)) : gb461 ≠ gb475)); have n7_ := Azz.mk ((by rw [hg]; exact Nat.ne_of_gt (blk_lt (g := gb461) (o := .cells #[.int .i64 t455, .int .i64 t456, .int .i64 t457, .int .u32 t458, .int .i64 t459] 24 (0, 0)) (by (with_reducible repeat (first | refine kdN ?_ _ | refine kd1 ?_ | refine kal ?_ _)); exact BK461.out)) : gb475 ≠ gb461)); have n8_ := Azz.mk ((by rw [hg]; exact Nat.ne_of_lt (blk_lt (g := gb468) (o := .cells #[.int .i64 t462, .int .i64 t463, .int .i64 t464, .string t465, .int .i64 t466] 36 (0, 0)) (by (with_reducible repeat (first | refine kdN ?_ _ | refine kd1 ?_ | refine kal ?_ _)); exact BK468.out)) : gb468 ≠ gb475)); have n9_ := Azz.mk ((by rw [hg]; exact Nat.ne_of_gt (blk_lt (g := gb468) (o := .cells #[.int .i64 t462, .int .i64 t463, .int .i64 t464, .string t465, .int .i64 t466] 36 (0, 0)) (by (with_reducible repeat (first | refine kdN ?_ _ | refine kd1 ?_ | refine kal ?_ _)); exact BK468.out)) : gb475 ≠ gb468)); clear BK461; clear BK468; clear HB; have BK461 := n0_; have BK468 := n1_; have HB := n2_; have BK475 := n3_; have GW475 := n4_; have GE475 := n5_; have NB461_475 := n6_; have NB475_461 := n7_; have NB468_475 := n8_; have NB475_468 := n9_; clear n0_ n1_ n2_ n3_ n4_ n5_ n6_ n7_ n8_ n9_; clear hb hbox hg; have hnb19 := NB475_461.out; have hnc19 := NB461_475.out; have hnb20 := NB475_468.out; have hnc20 := NB468_475.out; have hcz21_0 : World.cell? _ ⟨gb475, 0, none⟩ = some (.int .i64 0) := (kcl BK475.out 0).trans rfl; have hcz21_1 : World.cell? _ ⟨gb475, 1, none⟩ = some (.int .i64 0) := (kcl BK475.out 1).trans rfl; have hcz21_2 : World.cell? _ ⟨gb475, 2, none⟩ = some (.int .i64 0) := (kcl BK475.out 2).trans rfl; have hcz21_3 : World.cell? _ ⟨gb475, 3, none⟩ = some (.int .u32 0) := (kcl BK475.out 3).trans rfl; have hcz21_4 : World.cell? _ ⟨gb475, 4, none⟩ = some (.int .i64 0) := (kcl BK475.out 4).trans rfl; have hfz21_0 := kfz BK475.out 0; have hfz21_1 := kfz BK475.out 1; have hfz21_2 := kfz BK475.out 2; have hfz21_3 := kfz BK475.out 3; have hfz21_4 := kfz BK475.out 4) | ((with_reducible refine gate_callee (f := 22) rfl ?_); refine goesL_ (some 34) rfl rfl Try.func22 (by kernel_rfl) rfl #[.slice A0 l0.length c0] rfl (by (try simp only [List.map_toArray, List.map_cons, List.map_nil]); first | done | rfl | (simp only [List.length_drop, List.length_take]; rfl)) ?_; (with_reducible refine (rf_ReadData.calls k _ _ l0 t476 t477 t478 t479 t480 t481 _ ?side1 ?side2 A7.out).mono ?_); (case side1 => exact Kd.C_below HR0.out (by repeat (first | (with_reducible first | exact HB.out | apply bal | apply pbN | apply bd1 | refine bst ?_ GE461.out | refine bst ?_ GE468.out | refine bst ?_ GE475.out) | exact HB.out))); (case side2 => exact HC0.out); rintro e w22 ⟨rfl, hb⟩; refine ⟨_, rfl, ?_⟩; have n0_ := Azz.mk (blk_below (g := gb461) (o := .cells #[.int .i64 t455, .int .i64 t456, .int .i64 t457, .int .u32 t458, .int .i64 t459] 24 (0, 0)) (by (with_reducible repeat (first | refine kdN ?_ _ | refine kd1 ?_ | refine kal ?_ _)); refine blk_far ?_ NB461_475.out _; (with_reducible repeat (first | refine kdN ?_ _ | refine kd1 ?_ | refine kal ?_ _)); refine blk_far ?_ NB461_475.out _; (with_reducible repeat (first | refine kdN ?_ _ | refine kd1 ?_ | refine kal ?_ _)); refine blk_far ?_ NB461_475.out _; (with_reducible repeat (first | refine kdN ?_ _ | refine kd1 ?_ | refine kal ?_ _)); refine blk_far ?_ NB461_475.out _; (with_reducible repeat (first | refine kdN ?_ _ | refine kd1 ?_ | refine kal ?_ _)); refine blk_far ?_ NB461_475.out _; (with_reducible repeat (first | refine kdN ?_ _ | refine kd1 ?_ | refine kal ?_ _)); exact BK461.out) hb); have n1_ := Azz.mk (blk_below (g := gb468) (o := .cells #[.int .i64 t462, .int .i64 t463, .int .i64 t464, .string t465, .int .i64 t466] 36 (0, 0)) (by (with_reducible repeat (first | refine kdN ?_ _ | refine kd1 ?_ | refine kal ?_ _)); refine blk_far ?_ NB468_475.out _; (with_reducible repeat (first | refine kdN ?_ _ | refine kd1 ?_ | refine kal ?_ _)); refine blk_far ?_ NB468_475.out _; (with_reducible repeat (first | refine kdN ?_ _ | refine kd1 ?_ | refine kal ?_ _)); refine blk_far ?_ NB468_475.out _; (with_reducible repeat (first | refine kdN ?_ _ | refine kd1 ?_ | refine kal ?_ _)); refine blk_far ?_ NB468_475.out _; (with_reducible repeat (first | refine kdN ?_ _ | refine kd1 ?_ | refine kal ?_ _)); refine blk_far ?_ NB468_475.out _; (with_reducible repeat (first | refine kdN ?_ _ | refine kd1 ?_ | refine kal ?_ _)); exact BK468.out) hb); have n2_ := Azz.mk (blk_below (g := gb475) (o := .cells #[.int .i64 t469, .int .i64 t470, .int .i64 t471, .int .u32 t472, .int .i64 t473] 24 (0, 0)) (by (with_reducible repeat (first | refine kdN ?_ _ | refine kd1 ?_ | refine kal ?_ _)); refine blk_put (cs := #[.int .i64 t469, .int .i64 t470, .int .i64 t471, .int .u32 t472, .int .i64 0]) ?_ 4 _ rfl; (with_reducible repeat (first | refine kdN ?_ _ | refine kd1 ?_ | refine kal ?_ _)); refine blk_put (cs := #[.int .i64 t469, .int .i64 t470, .int .i64 t471, .int .u32 0, .int .i64 0]) ?_ 3 _ rfl; (with_reducible repeat (first | refine kdN ?_ _ | refine kd1 ?_ | refine kal ?_ _)); refine blk_put (cs := #[.int .i64 t469, .int .i64 t470, .int .i64 0, .int .u32 0, .int .i64 0]) ?_ 2 _ rfl; (with_reducible repeat (first | refine kdN ?_ _ | refine kd1 ?_ | refine kal ?_ _)); refine blk_put (cs := #[.int .i64 t469, .int .i64 0, .int .i64 0, .int .u32 0, .int .i64 0]) ?_ 1 _ rfl; (with_reducible repeat (first | refine kdN ?_ _ | refine kd1 ?_ | refine kal ?_ _)); refine blk_put (cs := #[.int .i64 0, .int .i64 0, .int .i64 0, .int .u32 0, .int .i64 0]) ?_ 0 _ rfl; (with_reducible repeat (first | refine kdN ?_ _ | refine kd1 ?_ | refine kal ?_ _)); exact BK475.out) hb); have n3_ := Azz.mk (below_step (by repeat (first | (with_reducible first | exact HB.out | apply bal | apply pbN | apply bd1 | refine bst ?_ GE461.out | refine bst ?_ GE468.out | refine bst ?_ GE475.out) | exact HB.out)) hb); clear BK461; clear BK468; clear BK475; clear HB; have BK461 := n0_; have BK468 := n1_; have BK475 := n2_; have HB := n3_; clear n0_ n1_ n2_ n3_; (try clear hb); (try clear hb2); (try clear hk); (try clear hi)) | ((with_reducible refine gate_dst (N := 9) rfl ?_); refine box_event ?hg (N := 9) ?hd (cs := #[.int .i64 0, .int .i64 0, .int .i64 0, .string (⟨#[]⟩ : ByteArray), .int .i64 0]) (t := 36) ?hr ?_; (case hd => rfl); (case hg => rfl); (case hr => first | (go_simp; done) | (go_simp; rfl)); intro gb482 hg w23 hbox hb; have n0_ := Azz.mk (blk_below (g := gb461) (o := .cells #[.int .i64 t455, .int .i64 t456, .int .i64 t457, .int .u32 t458, .int .i64 t459] 24 (0, 0)) (by (with_reducible repeat (first | refine kdN ?_ _ | refine kd1 ?_ | refine kal ?_ _)); exact BK461.out) hb); have n1_ := Azz.mk (blk_below (g := gb468) (o := .cells #[.int .i64 t462, .int .i64 t463, .int .i64 t464, .string t465, .int .i64 t466] 36 (0, 0)) (by (with_reducible repeat (first | refine kdN ?_ _ | refine kd1 ?_ | refine kal ?_ _)); exact BK468.out) hb); have n2_ := Azz.mk (blk_below (g := gb475) (o := .cells #[.int .i64 t469, .int .i64 t470, .int .i64 t471, .int .u32 t472, .int .i64 t473] 24 (0, 0)) (by (with_reducible repeat (first | refine kdN ?_ _ | refine kd1 ?_ | refine kal ?_ _)); exact BK475.out) hb); have n3_ := Azz.mk (below_step (by repeat (first | (with_reducible first | exact HB.out | apply bal | apply pbN | apply bd1 | refine bst ?_ GE461.out | refine bst ?_ GE468.out | refine bst ?_ GE475.out) | exact HB.out)) hb); have n4_ := Azz.mk (hbox); have n5_ := Azz.mk ((by rw [hg]; exact (below_size (by repeat (first | (with_reducible first | exact HB.out | apply bal | apply pbN | apply bd1 | refine bst ?_ GE461.out | refine bst ?_ GE468.out | refine bst ?_ GE475.out) | exact HB.out))) : w.heap.size ≤ gb482)); have n6_ := Azz.mk ((by rw [hg]; exact (below_size (by repeat (first | (with_reducible first | exact HB.out | apply bal | apply pbN | apply bd1 | refine bst ?_ GE461.out | refine bst ?_ GE468.out | refine bst ?_ GE475.out) | exact HB.out))) : w.heap.size ≤ gb482)); have n7_ := Azz.mk ((by rw [hg]; exact Nat.ne_of_lt (blk_lt (g := gb461) (o := .cells #[.int .i64 t455, .int .i64 t456, .int .i64 t457, .int .u32 t458, .int .i64 t459] 24 (0, 0)) (by (with_reducible repeat (first | refine kdN ?_ _ | refine kd1 ?_ | refine kal ?_ _)); exact BK461.out)) : gb461 ≠ gb482)); have n8_ := Azz.mk ((by rw [hg]; exact Nat.ne_of_gt (blk_lt (g := gb461) (o := .cells #[.int .i64 t455, .int .i64 t456, .int .i64 t457, .int .u32 t458, .int .i64 t459] 24 (0, 0)) (by (with_reducible repeat (first | refine kdN ?_ _ | refine kd1 ?_ | refine kal ?_ _)); exact BK461.out)) : gb482 ≠ gb461)); have n9_ := Azz.mk ((by rw [hg]; exact Nat.ne_of_lt (blk_lt (g := gb468) (o := .cells #[.int .i64 t462, .int .i64 t463, .int .i64 t464, .string t465, .int .i64 t466] 36 (0, 0)) (by (with_reducible repeat (first | refine kdN ?_ _ | refine kd1 ?_ | refine kal ?_ _)); exact BK468.out)) : gb468 ≠ gb482)); have n10_ := Azz.mk ((by rw [hg]; exact Nat.ne_of_gt (blk_lt (g := gb468) (o := .cells #[.int .i64 t462, .int .i64 t463, .int .i64 t464, .string t465, .int .i64 t466] 36 (0, 0)) (by (with_reducible repeat (first | refine kdN ?_ _ | refine kd1 ?_ | refine kal ?_ _)); exact BK468.out)) : gb482 ≠ gb468)); have n11_ := Azz.mk ((by rw [hg]; exact Nat.ne_of_lt (blk_lt (g := gb475) (o := .cells #[.int .i64 t469, .int .i64 t470, .int .i64 t471, .int .u32 t472, .int .i64 t473] 24 (0, 0)) (by (with_reducible repeat (first | refine kdN ?_ _ | refine kd1 ?_ | refine kal ?_ _)); exact BK475.out)) : gb475 ≠ gb482)); have n12_ := Azz.mk ((by rw [hg]; exact Nat.ne_of_gt (blk_lt (g := gb475) (o := .cells #[.int .i64 t469, .int .i64 t470, .int .i64 t471, .int .u32 t472, .int .i64 t473] 24 (0, 0)) (by (with_reducible repeat (first | refine kdN ?_ _ | refine kd1 ?_ | refine kal ?_ _)); exact BK475.out)) : gb482 ≠ gb475)); clear BK461; clear BK468; clear BK475; clear HB; have BK461 := n0_; have BK468 := n1_; have BK475 := n2_; have HB := n3_; have BK482 := n4_; have GW482 := n5_; have GE482 := n6_; have NB461_482 := n7_; have NB482_461 := n8_; have NB468_482 := n9_; have NB482_468 := n10_; have NB475_482 := n11_; have NB482_475 := n12_; clear n0_ n1_ n2_ n3_ n4_ n5_ n6_ n7_ n8_ n9_ n10_ n11_ n12_; clear hb hbox hg; have hnb24 := NB482_461.out; have hnc24 := NB461_482.out; have hnb25 := NB482_468.out; have hnc25 := NB468_482.out; have hnb26 := NB482_475.out; have hnc26 := NB475_482.out; have hcz27_0 : World.cell? _ ⟨gb482, 0, none⟩ = some (.int .i64 0) := (kcl BK482.out 0).trans rfl; have hcz27_1 : World.cell? _ ⟨gb482, 1, none⟩ = some (.int .i64 0) := (kcl BK482.out 1).trans rfl; have hcz27_2 : World.cell? _ ⟨gb482, 2, none⟩ = some (.int .i64 0) := (kcl BK482.out 2).trans rfl; have hcz27_3 : World.cell? _ ⟨gb482, 3, none⟩ = some (.string (⟨#[]⟩ : ByteArray)) := (kcl BK482.out 3).trans rfl; have hcz27_4 : World.cell? _ ⟨gb482, 4, none⟩ = some (.int .i64 0) := (kcl BK482.out 4).trans rfl; have hfz27_0 := kfz BK482.out 0; have hfz27_1 := kfz BK482.out 1; have hfz27_2 := kfz BK482.out 2; have hfz27_3 := kfz BK482.out 3; have hfz27_4 := kfz BK482.out 4))
  (try simp only [Act.put, List.setIfInBounds_toArray, List.set_cons_zero, List.set_cons_succ])
  go_cut [69] (fun v69 wc => ∃ (kq : Nat) (x69_7 : Bool), v69 = .bool x69_7 ∧ Azz (lw_FrameReads.j0 kq l0 t460 t467 x69_7 t455 t456 t457 t458 t459 t462 t463 t464 t465 t466 = some r) ∧ Azz (kq ≤ k) ∧ Azz (wc.heap[gb461]? = some (.cells #[.int .i64 t455, .int .i64 t456, .int .i64 t457, .int .u32 t458, .int .i64 t459] 24 (0, 0))) ∧ Azz (wc.heap[gb468]? = some (.cells #[.int .i64 t462, .int .i64 t463, .int .i64 t464, .string t465, .int .i64 t466] 36 (0, 0))) ∧ Azz (wc.heap[gb475]? = some (.cells #[.int .i64 t469, .int .i64 t470, .int .i64 t471, .int .u32 t472, .int .i64 t473] 24 (0, 0))) ∧ Azz (wc.heap[gb482]? = some (.cells #[.int .i64 t476, .int .i64 t477, .int .i64 t478, .string t479, .int .i64 t480] 36 (0, 0))) ∧ Azz (Below w.heap.size w wc))
  case first =>
   have H := HC8.out
   clear HC8
   by_cases c28 : (!(t455 == t469) || (!(t456 == t470) || (!(t457 == t471) || (!(t458 == t472) || (!(t459 == t473)))))) = true
   ·rw [if_pos c28] at H
    have c28b0 : (!(t455 == t469) || (!(t456 == t470) || (!(t457 == t471) || (!(t458 == t472) || (!(t459 == t473)))))) = true := c28
    clear c28
    (first | rw [c28b0] | (simp only [i64_w, i32_w]; rw [c28b0]) | skip)
    have H' := Azz.mk H
    clear H
    have hnb29 := NB461_468.out
    have hnc29 := NB468_461.out
    have hnb30 := NB461_475.out
    have hnc30 := NB475_461.out
    have hnb31 := NB461_482.out
    have hnc31 := NB482_461.out
    have hcz32_0 : World.cell? _ ⟨gb461, 0, none⟩ = some (.int .i64 t455) := (kcl BK461.out 0).trans rfl
    have hcz32_1 : World.cell? _ ⟨gb461, 1, none⟩ = some (.int .i64 t456) := (kcl BK461.out 1).trans rfl
    have hcz32_2 : World.cell? _ ⟨gb461, 2, none⟩ = some (.int .i64 t457) := (kcl BK461.out 2).trans rfl
    have hcz32_3 : World.cell? _ ⟨gb461, 3, none⟩ = some (.int .u32 t458) := (kcl BK461.out 3).trans rfl
    have hcz32_4 : World.cell? _ ⟨gb461, 4, none⟩ = some (.int .i64 t459) := (kcl BK461.out 4).trans rfl
    have hfz32_0 := kfz BK461.out 0
    have hfz32_1 := kfz BK461.out 1
    have hfz32_2 := kfz BK461.out 2
    have hfz32_3 := kfz BK461.out 3
    have hfz32_4 := kfz BK461.out 4
    have hnb33 := NB475_468.out
    have hnc33 := NB468_475.out
    have hnb34 := NB475_482.out
    have hnc34 := NB482_475.out
    have hcz35_0 : World.cell? _ ⟨gb475, 0, none⟩ = some (.int .i64 t469) := (kcl BK475.out 0).trans rfl
    have hcz35_1 : World.cell? _ ⟨gb475, 1, none⟩ = some (.int .i64 t470) := (kcl BK475.out 1).trans rfl
    have hcz35_2 : World.cell? _ ⟨gb475, 2, none⟩ = some (.int .i64 t471) := (kcl BK475.out 2).trans rfl
    have hcz35_3 : World.cell? _ ⟨gb475, 3, none⟩ = some (.int .u32 t472) := (kcl BK475.out 3).trans rfl
    have hcz35_4 : World.cell? _ ⟨gb475, 4, none⟩ = some (.int .i64 t473) := (kcl BK475.out 4).trans rfl
    have hfz35_0 := kfz BK475.out 0
    have hfz35_1 := kfz BK475.out 1
    have hfz35_2 := kfz BK475.out 2
    have hfz35_3 := kfz BK475.out 3
    have hfz35_4 := kfz BK475.out 4
    go_wp2
    go_meet
    case rel => exact ⟨_, (true), (by first | rfl | (simp; done) | (simp [*]; done)), H', ⟨by first | omega | exact Nat.le_refl _⟩, ⟨by (with_reducible repeat (first | refine kdN ?_ _ | refine kd1 ?_ | refine kal ?_ _)); refine blk_far ?_ NB461_482.out _; (with_reducible repeat (first | refine kdN ?_ _ | refine kd1 ?_ | refine kal ?_ _)); refine blk_far ?_ NB461_482.out _; (with_reducible repeat (first | refine kdN ?_ _ | refine kd1 ?_ | refine kal ?_ _)); refine blk_far ?_ NB461_482.out _; (with_reducible repeat (first | refine kdN ?_ _ | refine kd1 ?_ | refine kal ?_ _)); refine blk_far ?_ NB461_482.out _; (with_reducible repeat (first | refine kdN ?_ _ | refine kd1 ?_ | refine kal ?_ _)); refine blk_far ?_ NB461_482.out _; (with_reducible repeat (first | refine kdN ?_ _ | refine kd1 ?_ | refine kal ?_ _)); exact BK461.out⟩, ⟨by (with_reducible repeat (first | refine kdN ?_ _ | refine kd1 ?_ | refine kal ?_ _)); refine blk_far ?_ NB468_482.out _; (with_reducible repeat (first | refine kdN ?_ _ | refine kd1 ?_ | refine kal ?_ _)); refine blk_far ?_ NB468_482.out _; (with_reducible repeat (first | refine kdN ?_ _ | refine kd1 ?_ | refine kal ?_ _)); refine blk_far ?_ NB468_482.out _; (with_reducible repeat (first | refine kdN ?_ _ | refine kd1 ?_ | refine kal ?_ _)); refine blk_far ?_ NB468_482.out _; (with_reducible repeat (first | refine kdN ?_ _ | refine kd1 ?_ | refine kal ?_ _)); refine blk_far ?_ NB468_482.out _; (with_reducible repeat (first | refine kdN ?_ _ | refine kd1 ?_ | refine kal ?_ _)); exact BK468.out⟩, ⟨by (with_reducible repeat (first | refine kdN ?_ _ | refine kd1 ?_ | refine kal ?_ _)); refine blk_far ?_ NB475_482.out _; (with_reducible repeat (first | refine kdN ?_ _ | refine kd1 ?_ | refine kal ?_ _)); refine blk_far ?_ NB475_482.out _; (with_reducible repeat (first | refine kdN ?_ _ | refine kd1 ?_ | refine kal ?_ _)); refine blk_far ?_ NB475_482.out _; (with_reducible repeat (first | refine kdN ?_ _ | refine kd1 ?_ | refine kal ?_ _)); refine blk_far ?_ NB475_482.out _; (with_reducible repeat (first | refine kdN ?_ _ | refine kd1 ?_ | refine kal ?_ _)); refine blk_far ?_ NB475_482.out _; (with_reducible repeat (first | refine kdN ?_ _ | refine kd1 ?_ | refine kal ?_ _)); exact BK475.out⟩, ⟨by (with_reducible repeat (first | refine kdN ?_ _ | refine kd1 ?_ | refine kal ?_ _)); refine blk_put (cs := #[.int .i64 t476, .int .i64 t477, .int .i64 t478, .string t479, .int .i64 0]) ?_ 4 _ rfl; (with_reducible repeat (first | refine kdN ?_ _ | refine kd1 ?_ | refine kal ?_ _)); refine blk_put (cs := #[.int .i64 t476, .int .i64 t477, .int .i64 t478, .string (⟨#[]⟩ : ByteArray), .int .i64 0]) ?_ 3 _ rfl; (with_reducible repeat (first | refine kdN ?_ _ | refine kd1 ?_ | refine kal ?_ _)); refine blk_put (cs := #[.int .i64 t476, .int .i64 t477, .int .i64 0, .string (⟨#[]⟩ : ByteArray), .int .i64 0]) ?_ 2 _ rfl; (with_reducible repeat (first | refine kdN ?_ _ | refine kd1 ?_ | refine kal ?_ _)); refine blk_put (cs := #[.int .i64 t476, .int .i64 0, .int .i64 0, .string (⟨#[]⟩ : ByteArray), .int .i64 0]) ?_ 1 _ rfl; (with_reducible repeat (first | refine kdN ?_ _ | refine kd1 ?_ | refine kal ?_ _)); refine blk_put (cs := #[.int .i64 0, .int .i64 0, .int .i64 0, .string (⟨#[]⟩ : ByteArray), .int .i64 0]) ?_ 0 _ rfl; (with_reducible repeat (first | refine kdN ?_ _ | refine kd1 ?_ | refine kal ?_ _)); exact BK482.out⟩, ⟨by repeat (first | (with_reducible first | exact HB.out | apply bal | apply pbN | apply bd1 | refine bst ?_ GE461.out | refine bst ?_ GE468.out | refine bst ?_ GE475.out | refine bst ?_ GE482.out) | exact HB.out)⟩⟩
   ·rw [if_neg c28] at H
    have c28b0 : (!(t455 == t469) || (!(t456 == t470) || (!(t457 == t471) || (!(t458 == t472) || (!(t459 == t473)))))) = false := by simpa using c28
    clear c28
    (first | rw [c28b0] | (simp only [i64_w, i32_w]; rw [c28b0]) | skip)
    by_cases c36 : t460 = t474
    ·rw [if_pos c36] at H
     have c36b0 : (t460 == t474) = true := beq_iff_eq.mpr c36
     have c36b1 : (t460 != t474) = false := bne_eq_false_iff_eq.mpr c36
     clear c36
     by_cases c37 : (!(t462 == t476) || (!(t463 == t477) || (!(t464 == t478) || (!(t465.toList == t479.toList) || (!(t466 == t480)))))) = true
     ·rw [if_pos c37] at H
      have c37b0 : (!(t462 == t476) || (!(t463 == t477) || (!(t464 == t478) || (!(t465.toList == t479.toList) || (!(t466 == t480)))))) = true := c37
      clear c37
      have H' := Azz.mk H
      clear H
      have hnb38 := NB461_468.out
      have hnc38 := NB468_461.out
      have hnb39 := NB461_475.out
      have hnc39 := NB475_461.out
      have hnb40 := NB461_482.out
      have hnc40 := NB482_461.out
      have hcz41_0 : World.cell? _ ⟨gb461, 0, none⟩ = some (.int .i64 t455) := (kcl BK461.out 0).trans rfl
      have hcz41_1 : World.cell? _ ⟨gb461, 1, none⟩ = some (.int .i64 t456) := (kcl BK461.out 1).trans rfl
      have hcz41_2 : World.cell? _ ⟨gb461, 2, none⟩ = some (.int .i64 t457) := (kcl BK461.out 2).trans rfl
      have hcz41_3 : World.cell? _ ⟨gb461, 3, none⟩ = some (.int .u32 t458) := (kcl BK461.out 3).trans rfl
      have hcz41_4 : World.cell? _ ⟨gb461, 4, none⟩ = some (.int .i64 t459) := (kcl BK461.out 4).trans rfl
      have hfz41_0 := kfz BK461.out 0
      have hfz41_1 := kfz BK461.out 1
      have hfz41_2 := kfz BK461.out 2
      have hfz41_3 := kfz BK461.out 3
      have hfz41_4 := kfz BK461.out 4
      have hnb42 := NB475_468.out
      have hnc42 := NB468_475.out
      have hnb43 := NB475_482.out
      have hnc43 := NB482_475.out
      have hcz44_0 : World.cell? _ ⟨gb475, 0, none⟩ = some (.int .i64 t469) := (kcl BK475.out 0).trans rfl
      have hcz44_1 : World.cell? _ ⟨gb475, 1, none⟩ = some (.int .i64 t470) := (kcl BK475.out 1).trans rfl
      have hcz44_2 : World.cell? _ ⟨gb475, 2, none⟩ = some (.int .i64 t471) := (kcl BK475.out 2).trans rfl
      have hcz44_3 : World.cell? _ ⟨gb475, 3, none⟩ = some (.int .u32 t472) := (kcl BK475.out 3).trans rfl
      have hcz44_4 : World.cell? _ ⟨gb475, 4, none⟩ = some (.int .i64 t473) := (kcl BK475.out 4).trans rfl
      have hfz44_0 := kfz BK475.out 0
      have hfz44_1 := kfz BK475.out 1
      have hfz44_2 := kfz BK475.out 2
      have hfz44_3 := kfz BK475.out 3
      have hfz44_4 := kfz BK475.out 4
      have hnb45 := NB468_482.out
      have hnc45 := NB482_468.out
      have hcz46_0 : World.cell? _ ⟨gb468, 0, none⟩ = some (.int .i64 t462) := (kcl BK468.out 0).trans rfl
      have hcz46_1 : World.cell? _ ⟨gb468, 1, none⟩ = some (.int .i64 t463) := (kcl BK468.out 1).trans rfl
      have hcz46_2 : World.cell? _ ⟨gb468, 2, none⟩ = some (.int .i64 t464) := (kcl BK468.out 2).trans rfl
      have hcz46_3 : World.cell? _ ⟨gb468, 3, none⟩ = some (.string t465) := (kcl BK468.out 3).trans rfl
      have hcz46_4 : World.cell? _ ⟨gb468, 4, none⟩ = some (.int .i64 t466) := (kcl BK468.out 4).trans rfl
      have hfz46_0 := kfz BK468.out 0
      have hfz46_1 := kfz BK468.out 1
      have hfz46_2 := kfz BK468.out 2
      have hfz46_3 := kfz BK468.out 3
      have hfz46_4 := kfz BK468.out 4
      have hcz47_0 : World.cell? _ ⟨gb482, 0, none⟩ = some (.int .i64 0) := (kcl BK482.out 0).trans rfl
      have hcz47_1 : World.cell? _ ⟨gb482, 1, none⟩ = some (.int .i64 0) := (kcl BK482.out 1).trans rfl
      have hcz47_2 : World.cell? _ ⟨gb482, 2, none⟩ = some (.int .i64 0) := (kcl BK482.out 2).trans rfl
      have hcz47_3 : World.cell? _ ⟨gb482, 3, none⟩ = some (.string (⟨#[]⟩ : ByteArray)) := (kcl BK482.out 3).trans rfl
      have hcz47_4 : World.cell? _ ⟨gb482, 4, none⟩ = some (.int .i64 0) := (kcl BK482.out 4).trans rfl
      have hfz47_0 := kfz BK482.out 0
      have hfz47_1 := kfz BK482.out 1
      have hfz47_2 := kfz BK482.out 2
      have hfz47_3 := kfz BK482.out 3
      have hfz47_4 := kfz BK482.out 4
      go_wp2
      go_meet
      case rel => exact ⟨_, (true), (by first | rfl | (simp; done) | (simp [*]; done)), H', ⟨by first | omega | exact Nat.le_refl _⟩, ⟨by (with_reducible repeat (first | refine kdN ?_ _ | refine kd1 ?_ | refine kal ?_ _)); refine blk_far ?_ NB461_482.out _; (with_reducible repeat (first | refine kdN ?_ _ | refine kd1 ?_ | refine kal ?_ _)); refine blk_far ?_ NB461_482.out _; (with_reducible repeat (first | refine kdN ?_ _ | refine kd1 ?_ | refine kal ?_ _)); refine blk_far ?_ NB461_482.out _; (with_reducible repeat (first | refine kdN ?_ _ | refine kd1 ?_ | refine kal ?_ _)); refine blk_far ?_ NB461_482.out _; (with_reducible repeat (first | refine kdN ?_ _ | refine kd1 ?_ | refine kal ?_ _)); refine blk_far ?_ NB461_482.out _; (with_reducible repeat (first | refine kdN ?_ _ | refine kd1 ?_ | refine kal ?_ _)); exact BK461.out⟩, ⟨by (with_reducible repeat (first | refine kdN ?_ _ | refine kd1 ?_ | refine kal ?_ _)); refine blk_far ?_ NB468_482.out _; (with_reducible repeat (first | refine kdN ?_ _ | refine kd1 ?_ | refine kal ?_ _)); refine blk_far ?_ NB468_482.out _; (with_reducible repeat (first | refine kdN ?_ _ | refine kd1 ?_ | refine kal ?_ _)); refine blk_far ?_ NB468_482.out _; (with_reducible repeat (first | refine kdN ?_ _ | refine kd1 ?_ | refine kal ?_ _)); refine blk_far ?_ NB468_482.out _; (with_reducible repeat (first | refine kdN ?_ _ | refine kd1 ?_ | refine kal ?_ _)); refine blk_far ?_ NB468_482.out _; (with_reducible repeat (first | refine kdN ?_ _ | refine kd1 ?_ | refine kal ?_ _)); exact BK468.out⟩, ⟨by (with_reducible repeat (first | refine kdN ?_ _ | refine kd1 ?_ | refine kal ?_ _)); refine blk_far ?_ NB475_482.out _; (with_reducible repeat (first | refine kdN ?_ _ | refine kd1 ?_ | refine kal ?_ _)); refine blk_far ?_ NB475_482.out _; (with_reducible repeat (first | refine kdN ?_ _ | refine kd1 ?_ | refine kal ?_ _)); refine blk_far ?_ NB475_482.out _; (with_reducible repeat (first | refine kdN ?_ _ | refine kd1 ?_ | refine kal ?_ _)); refine blk_far ?_ NB475_482.out _; (with_reducible repeat (first | refine kdN ?_ _ | refine kd1 ?_ | refine kal ?_ _)); refine blk_far ?_ NB475_482.out _; (with_reducible repeat (first | refine kdN ?_ _ | refine kd1 ?_ | refine kal ?_ _)); exact BK475.out⟩, ⟨by (with_reducible repeat (first | refine kdN ?_ _ | refine kd1 ?_ | refine kal ?_ _)); refine blk_put (cs := #[.int .i64 t476, .int .i64 t477, .int .i64 t478, .string t479, .int .i64 0]) ?_ 4 _ rfl; (with_reducible repeat (first | refine kdN ?_ _ | refine kd1 ?_ | refine kal ?_ _)); refine blk_put (cs := #[.int .i64 t476, .int .i64 t477, .int .i64 t478, .string (⟨#[]⟩ : ByteArray), .int .i64 0]) ?_ 3 _ rfl; (with_reducible repeat (first | refine kdN ?_ _ | refine kd1 ?_ | refine kal ?_ _)); refine blk_put (cs := #[.int .i64 t476, .int .i64 t477, .int .i64 0, .string (⟨#[]⟩ : ByteArray), .int .i64 0]) ?_ 2 _ rfl; (with_reducible repeat (first | refine kdN ?_ _ | refine kd1 ?_ | refine kal ?_ _)); refine blk_put (cs := #[.int .i64 t476, .int .i64 0, .int .i64 0, .string (⟨#[]⟩ : ByteArray), .int .i64 0]) ?_ 1 _ rfl; (with_reducible repeat (first | refine kdN ?_ _ | refine kd1 ?_ | refine kal ?_ _)); refine blk_put (cs := #[.int .i64 0, .int .i64 0, .int .i64 0, .string (⟨#[]⟩ : ByteArray), .int .i64 0]) ?_ 0 _ rfl; (with_reducible repeat (first | refine kdN ?_ _ | refine kd1 ?_ | refine kal ?_ _)); exact BK482.out⟩, ⟨by repeat (first | (with_reducible first | exact HB.out | apply bal | apply pbN | apply bd1 | refine bst ?_ GE461.out | refine bst ?_ GE468.out | refine bst ?_ GE475.out | refine bst ?_ GE482.out) | exact HB.out)⟩⟩
     ·rw [if_neg c37] at H
      have c37b0 : (!(t462 == t476) || (!(t463 == t477) || (!(t464 == t478) || (!(t465.toList == t479.toList) || (!(t466 == t480)))))) = false := by simpa using c37
      clear c37
      by_cases c48 : t467 = t481
      ·rw [if_pos c48] at H
       have c48b0 : (t467 == t481) = true := beq_iff_eq.mpr c48
       have c48b1 : (t467 != t481) = false := bne_eq_false_iff_eq.mpr c48
       clear c48
       replace H := Option.bind_eq_some_iff.mp H
       obtain ⟨t483, A490, H⟩ := H
       replace H : ((rf_Sum.f k l0).bind fun t484 => (if t483 = t484 then (if t460 = 0 then (lw_FrameReads.j0 k l0 t460 t467 (t467 == 0) t455 t456 t457 t458 t459 t462 t463 t464 t465 t466) else (lw_FrameReads.j0 k l0 t460 t467 false t455 t456 t457 t458 t459 t462 t463 t464 t465 t466)) else (lw_FrameReads.j0 k l0 t460 t467 true t455 t456 t457 t458 t459 t462 t463 t464 t465 t466))) = some r := H
       have A49 := Azz.mk A490
       clear A490
       replace H := Option.bind_eq_some_iff.mp H
       obtain ⟨t484, A500, H⟩ := H
       replace H : (if t483 = t484 then (if t460 = 0 then (lw_FrameReads.j0 k l0 t460 t467 (t467 == 0) t455 t456 t457 t458 t459 t462 t463 t464 t465 t466) else (lw_FrameReads.j0 k l0 t460 t467 false t455 t456 t457 t458 t459 t462 t463 t464 t465 t466)) else (lw_FrameReads.j0 k l0 t460 t467 true t455 t456 t457 t458 t459 t462 t463 t464 t465 t466)) = some r := H
       have A50 := Azz.mk A500
       clear A500
       by_cases c51 : t483 = t484
       ·rw [if_pos c51] at H
        have c51b0 : (t483 == t484) = true := beq_iff_eq.mpr c51
        have c51b1 : (t483 != t484) = false := bne_eq_false_iff_eq.mpr c51
        clear c51
        by_cases c52 : t460 = 0
        ·rw [if_pos c52] at H
         have c52b0 : (t460 == 0) = true := beq_iff_eq.mpr c52
         have c52b1 : (t460 != 0) = false := bne_eq_false_iff_eq.mpr c52
         clear c52
         have H' := Azz.mk H
         clear H
         have hnb53 := NB461_468.out
         have hnc53 := NB468_461.out
         have hnb54 := NB461_475.out
         have hnc54 := NB475_461.out
         have hnb55 := NB461_482.out
         have hnc55 := NB482_461.out
         have hcz56_0 : World.cell? _ ⟨gb461, 0, none⟩ = some (.int .i64 t455) := (kcl BK461.out 0).trans rfl
         have hcz56_1 : World.cell? _ ⟨gb461, 1, none⟩ = some (.int .i64 t456) := (kcl BK461.out 1).trans rfl
         have hcz56_2 : World.cell? _ ⟨gb461, 2, none⟩ = some (.int .i64 t457) := (kcl BK461.out 2).trans rfl
         have hcz56_3 : World.cell? _ ⟨gb461, 3, none⟩ = some (.int .u32 t458) := (kcl BK461.out 3).trans rfl
         have hcz56_4 : World.cell? _ ⟨gb461, 4, none⟩ = some (.int .i64 t459) := (kcl BK461.out 4).trans rfl
         have hfz56_0 := kfz BK461.out 0
         have hfz56_1 := kfz BK461.out 1
         have hfz56_2 := kfz BK461.out 2
         have hfz56_3 := kfz BK461.out 3
         have hfz56_4 := kfz BK461.out 4
         have hnb57 := NB475_468.out
         have hnc57 := NB468_475.out
         have hnb58 := NB475_482.out
         have hnc58 := NB482_475.out
         have hcz59_0 : World.cell? _ ⟨gb475, 0, none⟩ = some (.int .i64 t469) := (kcl BK475.out 0).trans rfl
         have hcz59_1 : World.cell? _ ⟨gb475, 1, none⟩ = some (.int .i64 t470) := (kcl BK475.out 1).trans rfl
         have hcz59_2 : World.cell? _ ⟨gb475, 2, none⟩ = some (.int .i64 t471) := (kcl BK475.out 2).trans rfl
         have hcz59_3 : World.cell? _ ⟨gb475, 3, none⟩ = some (.int .u32 t472) := (kcl BK475.out 3).trans rfl
         have hcz59_4 : World.cell? _ ⟨gb475, 4, none⟩ = some (.int .i64 t473) := (kcl BK475.out 4).trans rfl
         have hfz59_0 := kfz BK475.out 0
         have hfz59_1 := kfz BK475.out 1
         have hfz59_2 := kfz BK475.out 2
         have hfz59_3 := kfz BK475.out 3
         have hfz59_4 := kfz BK475.out 4
         have hnb60 := NB468_482.out
         have hnc60 := NB482_468.out
         have hcz61_0 : World.cell? _ ⟨gb468, 0, none⟩ = some (.int .i64 t462) := (kcl BK468.out 0).trans rfl
         have hcz61_1 : World.cell? _ ⟨gb468, 1, none⟩ = some (.int .i64 t463) := (kcl BK468.out 1).trans rfl
         have hcz61_2 : World.cell? _ ⟨gb468, 2, none⟩ = some (.int .i64 t464) := (kcl BK468.out 2).trans rfl
         have hcz61_3 : World.cell? _ ⟨gb468, 3, none⟩ = some (.string t465) := (kcl BK468.out 3).trans rfl
         have hcz61_4 : World.cell? _ ⟨gb468, 4, none⟩ = some (.int .i64 t466) := (kcl BK468.out 4).trans rfl
         have hfz61_0 := kfz BK468.out 0
         have hfz61_1 := kfz BK468.out 1
         have hfz61_2 := kfz BK468.out 2
         have hfz61_3 := kfz BK468.out 3
         have hfz61_4 := kfz BK468.out 4
         have hcz62_0 : World.cell? _ ⟨gb482, 0, none⟩ = some (.int .i64 0) := (kcl BK482.out 0).trans rfl
         have hcz62_1 : World.cell? _ ⟨gb482, 1, none⟩ = some (.int .i64 0) := (kcl BK482.out 1).trans rfl
         have hcz62_2 : World.cell? _ ⟨gb482, 2, none⟩ = some (.int .i64 0) := (kcl BK482.out 2).trans rfl
         have hcz62_3 : World.cell? _ ⟨gb482, 3, none⟩ = some (.string (⟨#[]⟩ : ByteArray)) := (kcl BK482.out 3).trans rfl
         have hcz62_4 : World.cell? _ ⟨gb482, 4, none⟩ = some (.int .i64 0) := (kcl BK482.out 4).trans rfl
         have hfz62_0 := kfz BK482.out 0
         have hfz62_1 := kfz BK482.out 1
         have hfz62_2 := kfz BK482.out 2
         have hfz62_3 := kfz BK482.out 3
         have hfz62_4 := kfz BK482.out 4
         go_wp2_with (first | (go_at_call 23; (with_reducible refine (frame_Sum.calls k _ _ l0 t483 _ ?side1 ?side2 A49.out).mono ?_); (case side1 => exact Kd.C_below HR0.out (by repeat (first | (with_reducible first | exact HB.out | apply bal | apply pbN | apply bd1 | refine bst ?_ GE461.out | refine bst ?_ GE468.out | refine bst ?_ GE475.out | refine bst ?_ GE482.out) | exact HB.out))); (case side2 => exact HC0.out); rintro e w' ⟨rfl, ⟨nd, rfl⟩⟩) | (go_at_call 24; (with_reducible refine (rf_Sum.calls k _ _ l0 t484 _ ?side1 ?side2 A50.out).mono ?_); (case side1 => exact Kd.C_below HR0.out (by repeat (first | (with_reducible first | exact HB.out | apply bal | apply pbN | apply bd1 | refine bst ?_ GE461.out | refine bst ?_ GE468.out | refine bst ?_ GE475.out | refine bst ?_ GE482.out) | exact HB.out))); (case side2 => exact HC0.out); rintro e w' ⟨rfl, ⟨nd, rfl⟩⟩))
         go_meet
         case rel => exact ⟨_, ((t467 == 0)), (by first | rfl | (simp; done) | (simp [*]; done)), H', ⟨by first | omega | exact Nat.le_refl _⟩, ⟨by (with_reducible repeat (first | refine kdN ?_ _ | refine kd1 ?_ | refine kal ?_ _)); refine blk_far ?_ NB461_482.out _; (with_reducible repeat (first | refine kdN ?_ _ | refine kd1 ?_ | refine kal ?_ _)); refine blk_far ?_ NB461_482.out _; (with_reducible repeat (first | refine kdN ?_ _ | refine kd1 ?_ | refine kal ?_ _)); refine blk_far ?_ NB461_482.out _; (with_reducible repeat (first | refine kdN ?_ _ | refine kd1 ?_ | refine kal ?_ _)); refine blk_far ?_ NB461_482.out _; (with_reducible repeat (first | refine kdN ?_ _ | refine kd1 ?_ | refine kal ?_ _)); refine blk_far ?_ NB461_482.out _; (with_reducible repeat (first | refine kdN ?_ _ | refine kd1 ?_ | refine kal ?_ _)); exact BK461.out⟩, ⟨by (with_reducible repeat (first | refine kdN ?_ _ | refine kd1 ?_ | refine kal ?_ _)); refine blk_far ?_ NB468_482.out _; (with_reducible repeat (first | refine kdN ?_ _ | refine kd1 ?_ | refine kal ?_ _)); refine blk_far ?_ NB468_482.out _; (with_reducible repeat (first | refine kdN ?_ _ | refine kd1 ?_ | refine kal ?_ _)); refine blk_far ?_ NB468_482.out _; (with_reducible repeat (first | refine kdN ?_ _ | refine kd1 ?_ | refine kal ?_ _)); refine blk_far ?_ NB468_482.out _; (with_reducible repeat (first | refine kdN ?_ _ | refine kd1 ?_ | refine kal ?_ _)); refine blk_far ?_ NB468_482.out _; (with_reducible repeat (first | refine kdN ?_ _ | refine kd1 ?_ | refine kal ?_ _)); exact BK468.out⟩, ⟨by (with_reducible repeat (first | refine kdN ?_ _ | refine kd1 ?_ | refine kal ?_ _)); refine blk_far ?_ NB475_482.out _; (with_reducible repeat (first | refine kdN ?_ _ | refine kd1 ?_ | refine kal ?_ _)); refine blk_far ?_ NB475_482.out _; (with_reducible repeat (first | refine kdN ?_ _ | refine kd1 ?_ | refine kal ?_ _)); refine blk_far ?_ NB475_482.out _; (with_reducible repeat (first | refine kdN ?_ _ | refine kd1 ?_ | refine kal ?_ _)); refine blk_far ?_ NB475_482.out _; (with_reducible repeat (first | refine kdN ?_ _ | refine kd1 ?_ | refine kal ?_ _)); refine blk_far ?_ NB475_482.out _; (with_reducible repeat (first | refine kdN ?_ _ | refine kd1 ?_ | refine kal ?_ _)); exact BK475.out⟩, ⟨by (with_reducible repeat (first | refine kdN ?_ _ | refine kd1 ?_ | refine kal ?_ _)); refine blk_put (cs := #[.int .i64 t476, .int .i64 t477, .int .i64 t478, .string t479, .int .i64 0]) ?_ 4 _ rfl; (with_reducible repeat (first | refine kdN ?_ _ | refine kd1 ?_ | refine kal ?_ _)); refine blk_put (cs := #[.int .i64 t476, .int .i64 t477, .int .i64 t478, .string (⟨#[]⟩ : ByteArray), .int .i64 0]) ?_ 3 _ rfl; (with_reducible repeat (first | refine kdN ?_ _ | refine kd1 ?_ | refine kal ?_ _)); refine blk_put (cs := #[.int .i64 t476, .int .i64 t477, .int .i64 0, .string (⟨#[]⟩ : ByteArray), .int .i64 0]) ?_ 2 _ rfl; (with_reducible repeat (first | refine kdN ?_ _ | refine kd1 ?_ | refine kal ?_ _)); refine blk_put (cs := #[.int .i64 t476, .int .i64 0, .int .i64 0, .string (⟨#[]⟩ : ByteArray), .int .i64 0]) ?_ 1 _ rfl; (with_reducible repeat (first | refine kdN ?_ _ | refine kd1 ?_ | refine kal ?_ _)); refine blk_put (cs := #[.int .i64 0, .int .i64 0, .int .i64 0, .string (⟨#[]⟩ : ByteArray), .int .i64 0]) ?_ 0 _ rfl; (with_reducible repeat (first | refine kdN ?_ _ | refine kd1 ?_ | refine kal ?_ _)); exact BK482.out⟩, ⟨by repeat (first | (with_reducible first | exact HB.out | apply bal | apply pbN | apply bd1 | refine bst ?_ GE461.out | refine bst ?_ GE468.out | refine bst ?_ GE475.out | refine bst ?_ GE482.out) | exact HB.out)⟩⟩
        ·rw [if_neg c52] at H
         have c52b0 : (t460 == 0) = false := beq_eq_false_iff_ne.mpr c52
         have c52b1 : (t460 != 0) = true := bne_iff_ne.mpr c52
         have H' := Azz.mk H
         clear H
         have hnb63 := NB461_468.out
         have hnc63 := NB468_461.out
         have hnb64 := NB461_475.out
         have hnc64 := NB475_461.out
         have hnb65 := NB461_482.out
         have hnc65 := NB482_461.out
         have hcz66_0 : World.cell? _ ⟨gb461, 0, none⟩ = some (.int .i64 t455) := (kcl BK461.out 0).trans rfl
         have hcz66_1 : World.cell? _ ⟨gb461, 1, none⟩ = some (.int .i64 t456) := (kcl BK461.out 1).trans rfl
         have hcz66_2 : World.cell? _ ⟨gb461, 2, none⟩ = some (.int .i64 t457) := (kcl BK461.out 2).trans rfl
         have hcz66_3 : World.cell? _ ⟨gb461, 3, none⟩ = some (.int .u32 t458) := (kcl BK461.out 3).trans rfl
         have hcz66_4 : World.cell? _ ⟨gb461, 4, none⟩ = some (.int .i64 t459) := (kcl BK461.out 4).trans rfl
         have hfz66_0 := kfz BK461.out 0
         have hfz66_1 := kfz BK461.out 1
         have hfz66_2 := kfz BK461.out 2
         have hfz66_3 := kfz BK461.out 3
         have hfz66_4 := kfz BK461.out 4
         have hnb67 := NB475_468.out
         have hnc67 := NB468_475.out
         have hnb68 := NB475_482.out
         have hnc68 := NB482_475.out
         have hcz69_0 : World.cell? _ ⟨gb475, 0, none⟩ = some (.int .i64 t469) := (kcl BK475.out 0).trans rfl
         have hcz69_1 : World.cell? _ ⟨gb475, 1, none⟩ = some (.int .i64 t470) := (kcl BK475.out 1).trans rfl
         have hcz69_2 : World.cell? _ ⟨gb475, 2, none⟩ = some (.int .i64 t471) := (kcl BK475.out 2).trans rfl
         have hcz69_3 : World.cell? _ ⟨gb475, 3, none⟩ = some (.int .u32 t472) := (kcl BK475.out 3).trans rfl
         have hcz69_4 : World.cell? _ ⟨gb475, 4, none⟩ = some (.int .i64 t473) := (kcl BK475.out 4).trans rfl
         have hfz69_0 := kfz BK475.out 0
         have hfz69_1 := kfz BK475.out 1
         have hfz69_2 := kfz BK475.out 2
         have hfz69_3 := kfz BK475.out 3
         have hfz69_4 := kfz BK475.out 4
         have hnb70 := NB468_482.out
         have hnc70 := NB482_468.out
         have hcz71_0 : World.cell? _ ⟨gb468, 0, none⟩ = some (.int .i64 t462) := (kcl BK468.out 0).trans rfl
         have hcz71_1 : World.cell? _ ⟨gb468, 1, none⟩ = some (.int .i64 t463) := (kcl BK468.out 1).trans rfl
         have hcz71_2 : World.cell? _ ⟨gb468, 2, none⟩ = some (.int .i64 t464) := (kcl BK468.out 2).trans rfl
         have hcz71_3 : World.cell? _ ⟨gb468, 3, none⟩ = some (.string t465) := (kcl BK468.out 3).trans rfl
         have hcz71_4 : World.cell? _ ⟨gb468, 4, none⟩ = some (.int .i64 t466) := (kcl BK468.out 4).trans rfl
         have hfz71_0 := kfz BK468.out 0
         have hfz71_1 := kfz BK468.out 1
         have hfz71_2 := kfz BK468.out 2
         have hfz71_3 := kfz BK468.out 3
         have hfz71_4 := kfz BK468.out 4
         have hcz72_0 : World.cell? _ ⟨gb482, 0, none⟩ = some (.int .i64 0) := (kcl BK482.out 0).trans rfl
         have hcz72_1 : World.cell? _ ⟨gb482, 1, none⟩ = some (.int .i64 0) := (kcl BK482.out 1).trans rfl
         have hcz72_2 : World.cell? _ ⟨gb482, 2, none⟩ = some (.int .i64 0) := (kcl BK482.out 2).trans rfl
         have hcz72_3 : World.cell? _ ⟨gb482, 3, none⟩ = some (.string (⟨#[]⟩ : ByteArray)) := (kcl BK482.out 3).trans rfl
         have hcz72_4 : World.cell? _ ⟨gb482, 4, none⟩ = some (.int .i64 0) := (kcl BK482.out 4).trans rfl
         have hfz72_0 := kfz BK482.out 0
         have hfz72_1 := kfz BK482.out 1
         have hfz72_2 := kfz BK482.out 2
         have hfz72_3 := kfz BK482.out 3
         have hfz72_4 := kfz BK482.out 4
         go_wp2_with (first | (go_at_call 23; (with_reducible refine (frame_Sum.calls k _ _ l0 t483 _ ?side1 ?side2 A49.out).mono ?_); (case side1 => exact Kd.C_below HR0.out (by repeat (first | (with_reducible first | exact HB.out | apply bal | apply pbN | apply bd1 | refine bst ?_ GE461.out | refine bst ?_ GE468.out | refine bst ?_ GE475.out | refine bst ?_ GE482.out) | exact HB.out))); (case side2 => exact HC0.out); rintro e w' ⟨rfl, ⟨nd, rfl⟩⟩) | (go_at_call 24; (with_reducible refine (rf_Sum.calls k _ _ l0 t484 _ ?side1 ?side2 A50.out).mono ?_); (case side1 => exact Kd.C_below HR0.out (by repeat (first | (with_reducible first | exact HB.out | apply bal | apply pbN | apply bd1 | refine bst ?_ GE461.out | refine bst ?_ GE468.out | refine bst ?_ GE475.out | refine bst ?_ GE482.out) | exact HB.out))); (case side2 => exact HC0.out); rintro e w' ⟨rfl, ⟨nd, rfl⟩⟩))
         go_meet
         case rel => exact ⟨_, (false), (by first | rfl | (simp; done) | (simp [*]; done)), H', ⟨by first | omega | exact Nat.le_refl _⟩, ⟨by (with_reducible repeat (first | refine kdN ?_ _ | refine kd1 ?_ | refine kal ?_ _)); refine blk_far ?_ NB461_482.out _; (with_reducible repeat (first | refine kdN ?_ _ | refine kd1 ?_ | refine kal ?_ _)); refine blk_far ?_ NB461_482.out _; (with_reducible repeat (first | refine kdN ?_ _ | refine kd1 ?_ | refine kal ?_ _)); refine blk_far ?_ NB461_482.out _; (with_reducible repeat (first | refine kdN ?_ _ | refine kd1 ?_ | refine kal ?_ _)); refine blk_far ?_ NB461_482.out _; (with_reducible repeat (first | refine kdN ?_ _ | refine kd1 ?_ | refine kal ?_ _)); refine blk_far ?_ NB461_482.out _; (with_reducible repeat (first | refine kdN ?_ _ | refine kd1 ?_ | refine kal ?_ _)); exact BK461.out⟩, ⟨by (with_reducible repeat (first | refine kdN ?_ _ | refine kd1 ?_ | refine kal ?_ _)); refine blk_far ?_ NB468_482.out _; (with_reducible repeat (first | refine kdN ?_ _ | refine kd1 ?_ | refine kal ?_ _)); refine blk_far ?_ NB468_482.out _; (with_reducible repeat (first | refine kdN ?_ _ | refine kd1 ?_ | refine kal ?_ _)); refine blk_far ?_ NB468_482.out _; (with_reducible repeat (first | refine kdN ?_ _ | refine kd1 ?_ | refine kal ?_ _)); refine blk_far ?_ NB468_482.out _; (with_reducible repeat (first | refine kdN ?_ _ | refine kd1 ?_ | refine kal ?_ _)); refine blk_far ?_ NB468_482.out _; (with_reducible repeat (first | refine kdN ?_ _ | refine kd1 ?_ | refine kal ?_ _)); exact BK468.out⟩, ⟨by (with_reducible repeat (first | refine kdN ?_ _ | refine kd1 ?_ | refine kal ?_ _)); refine blk_far ?_ NB475_482.out _; (with_reducible repeat (first | refine kdN ?_ _ | refine kd1 ?_ | refine kal ?_ _)); refine blk_far ?_ NB475_482.out _; (with_reducible repeat (first | refine kdN ?_ _ | refine kd1 ?_ | refine kal ?_ _)); refine blk_far ?_ NB475_482.out _; (with_reducible repeat (first | refine kdN ?_ _ | refine kd1 ?_ | refine kal ?_ _)); refine blk_far ?_ NB475_482.out _; (with_reducible repeat (first | refine kdN ?_ _ | refine kd1 ?_ | refine kal ?_ _)); refine blk_far ?_ NB475_482.out _; (with_reducible repeat (first | refine kdN ?_ _ | refine kd1 ?_ | refine kal ?_ _)); exact BK475.out⟩, ⟨by (with_reducible repeat (first | refine kdN ?_ _ | refine kd1 ?_ | refine kal ?_ _)); refine blk_put (cs := #[.int .i64 t476, .int .i64 t477, .int .i64 t478, .string t479, .int .i64 0]) ?_ 4 _ rfl; (with_reducible repeat (first | refine kdN ?_ _ | refine kd1 ?_ | refine kal ?_ _)); refine blk_put (cs := #[.int .i64 t476, .int .i64 t477, .int .i64 t478, .string (⟨#[]⟩ : ByteArray), .int .i64 0]) ?_ 3 _ rfl; (with_reducible repeat (first | refine kdN ?_ _ | refine kd1 ?_ | refine kal ?_ _)); refine blk_put (cs := #[.int .i64 t476, .int .i64 t477, .int .i64 0, .string (⟨#[]⟩ : ByteArray), .int .i64 0]) ?_ 2 _ rfl; (with_reducible repeat (first | refine kdN ?_ _ | refine kd1 ?_ | refine kal ?_ _)); refine blk_put (cs := #[.int .i64 t476, .int .i64 0, .int .i64 0, .string (⟨#[]⟩ : ByteArray), .int .i64 0]) ?_ 1 _ rfl; (with_reducible repeat (first | refine kdN ?_ _ | refine kd1 ?_ | refine kal ?_ _)); refine blk_put (cs := #[.int .i64 0, .int .i64 0, .int .i64 0, .string (⟨#[]⟩ : ByteArray), .int .i64 0]) ?_ 0 _ rfl; (with_reducible repeat (first | refine kdN ?_ _ | refine kd1 ?_ | refine kal ?_ _)); exact BK482.out⟩, ⟨by repeat (first | (with_reducible first | exact HB.out | apply bal | apply pbN | apply bd1 | refine bst ?_ GE461.out | refine bst ?_ GE468.out | refine bst ?_ GE475.out | refine bst ?_ GE482.out) | exact HB.out)⟩⟩
       ·rw [if_neg c51] at H
        have c51b0 : (t483 == t484) = false := beq_eq_false_iff_ne.mpr c51
        have c51b1 : (t483 != t484) = true := bne_iff_ne.mpr c51
        have H' := Azz.mk H
        clear H
        have hnb73 := NB461_468.out
        have hnc73 := NB468_461.out
        have hnb74 := NB461_475.out
        have hnc74 := NB475_461.out
        have hnb75 := NB461_482.out
        have hnc75 := NB482_461.out
        have hcz76_0 : World.cell? _ ⟨gb461, 0, none⟩ = some (.int .i64 t455) := (kcl BK461.out 0).trans rfl
        have hcz76_1 : World.cell? _ ⟨gb461, 1, none⟩ = some (.int .i64 t456) := (kcl BK461.out 1).trans rfl
        have hcz76_2 : World.cell? _ ⟨gb461, 2, none⟩ = some (.int .i64 t457) := (kcl BK461.out 2).trans rfl
        have hcz76_3 : World.cell? _ ⟨gb461, 3, none⟩ = some (.int .u32 t458) := (kcl BK461.out 3).trans rfl
        have hcz76_4 : World.cell? _ ⟨gb461, 4, none⟩ = some (.int .i64 t459) := (kcl BK461.out 4).trans rfl
        have hfz76_0 := kfz BK461.out 0
        have hfz76_1 := kfz BK461.out 1
        have hfz76_2 := kfz BK461.out 2
        have hfz76_3 := kfz BK461.out 3
        have hfz76_4 := kfz BK461.out 4
        have hnb77 := NB475_468.out
        have hnc77 := NB468_475.out
        have hnb78 := NB475_482.out
        have hnc78 := NB482_475.out
        have hcz79_0 : World.cell? _ ⟨gb475, 0, none⟩ = some (.int .i64 t469) := (kcl BK475.out 0).trans rfl
        have hcz79_1 : World.cell? _ ⟨gb475, 1, none⟩ = some (.int .i64 t470) := (kcl BK475.out 1).trans rfl
        have hcz79_2 : World.cell? _ ⟨gb475, 2, none⟩ = some (.int .i64 t471) := (kcl BK475.out 2).trans rfl
        have hcz79_3 : World.cell? _ ⟨gb475, 3, none⟩ = some (.int .u32 t472) := (kcl BK475.out 3).trans rfl
        have hcz79_4 : World.cell? _ ⟨gb475, 4, none⟩ = some (.int .i64 t473) := (kcl BK475.out 4).trans rfl
        have hfz79_0 := kfz BK475.out 0
        have hfz79_1 := kfz BK475.out 1
        have hfz79_2 := kfz BK475.out 2
        have hfz79_3 := kfz BK475.out 3
        have hfz79_4 := kfz BK475.out 4
        have hnb80 := NB468_482.out
        have hnc80 := NB482_468.out
        have hcz81_0 : World.cell? _ ⟨gb468, 0, none⟩ = some (.int .i64 t462) := (kcl BK468.out 0).trans rfl
        have hcz81_1 : World.cell? _ ⟨gb468, 1, none⟩ = some (.int .i64 t463) := (kcl BK468.out 1).trans rfl
        have hcz81_2 : World.cell? _ ⟨gb468, 2, none⟩ = some (.int .i64 t464) := (kcl BK468.out 2).trans rfl
        have hcz81_3 : World.cell? _ ⟨gb468, 3, none⟩ = some (.string t465) := (kcl BK468.out 3).trans rfl
        have hcz81_4 : World.cell? _ ⟨gb468, 4, none⟩ = some (.int .i64 t466) := (kcl BK468.out 4).trans rfl
        have hfz81_0 := kfz BK468.out 0
        have hfz81_1 := kfz BK468.out 1
        have hfz81_2 := kfz BK468.out 2
        have hfz81_3 := kfz BK468.out 3
        have hfz81_4 := kfz BK468.out 4
        have hcz82_0 : World.cell? _ ⟨gb482, 0, none⟩ = some (.int .i64 0) := (kcl BK482.out 0).trans rfl
        have hcz82_1 : World.cell? _ ⟨gb482, 1, none⟩ = some (.int .i64 0) := (kcl BK482.out 1).trans rfl
        have hcz82_2 : World.cell? _ ⟨gb482, 2, none⟩ = some (.int .i64 0) := (kcl BK482.out 2).trans rfl
        have hcz82_3 : World.cell? _ ⟨gb482, 3, none⟩ = some (.string (⟨#[]⟩ : ByteArray)) := (kcl BK482.out 3).trans rfl
        have hcz82_4 : World.cell? _ ⟨gb482, 4, none⟩ = some (.int .i64 0) := (kcl BK482.out 4).trans rfl
        have hfz82_0 := kfz BK482.out 0
        have hfz82_1 := kfz BK482.out 1
        have hfz82_2 := kfz BK482.out 2
        have hfz82_3 := kfz BK482.out 3
        have hfz82_4 := kfz BK482.out 4
        go_wp2_with (first | (go_at_call 23; (with_reducible refine (frame_Sum.calls k _ _ l0 t483 _ ?side1 ?side2 A49.out).mono ?_); (case side1 => exact Kd.C_below HR0.out (by repeat (first | (with_reducible first | exact HB.out | apply bal | apply pbN | apply bd1 | refine bst ?_ GE461.out | refine bst ?_ GE468.out | refine bst ?_ GE475.out | refine bst ?_ GE482.out) | exact HB.out))); (case side2 => exact HC0.out); rintro e w' ⟨rfl, ⟨nd, rfl⟩⟩) | (go_at_call 24; (with_reducible refine (rf_Sum.calls k _ _ l0 t484 _ ?side1 ?side2 A50.out).mono ?_); (case side1 => exact Kd.C_below HR0.out (by repeat (first | (with_reducible first | exact HB.out | apply bal | apply pbN | apply bd1 | refine bst ?_ GE461.out | refine bst ?_ GE468.out | refine bst ?_ GE475.out | refine bst ?_ GE482.out) | exact HB.out))); (case side2 => exact HC0.out); rintro e w' ⟨rfl, ⟨nd, rfl⟩⟩))
        go_meet
        case rel => exact ⟨_, (true), (by first | rfl | (simp; done) | (simp [*]; done)), H', ⟨by first | omega | exact Nat.le_refl _⟩, ⟨by (with_reducible repeat (first | refine kdN ?_ _ | refine kd1 ?_ | refine kal ?_ _)); refine blk_far ?_ NB461_482.out _; (with_reducible repeat (first | refine kdN ?_ _ | refine kd1 ?_ | refine kal ?_ _)); refine blk_far ?_ NB461_482.out _; (with_reducible repeat (first | refine kdN ?_ _ | refine kd1 ?_ | refine kal ?_ _)); refine blk_far ?_ NB461_482.out _; (with_reducible repeat (first | refine kdN ?_ _ | refine kd1 ?_ | refine kal ?_ _)); refine blk_far ?_ NB461_482.out _; (with_reducible repeat (first | refine kdN ?_ _ | refine kd1 ?_ | refine kal ?_ _)); refine blk_far ?_ NB461_482.out _; (with_reducible repeat (first | refine kdN ?_ _ | refine kd1 ?_ | refine kal ?_ _)); exact BK461.out⟩, ⟨by (with_reducible repeat (first | refine kdN ?_ _ | refine kd1 ?_ | refine kal ?_ _)); refine blk_far ?_ NB468_482.out _; (with_reducible repeat (first | refine kdN ?_ _ | refine kd1 ?_ | refine kal ?_ _)); refine blk_far ?_ NB468_482.out _; (with_reducible repeat (first | refine kdN ?_ _ | refine kd1 ?_ | refine kal ?_ _)); refine blk_far ?_ NB468_482.out _; (with_reducible repeat (first | refine kdN ?_ _ | refine kd1 ?_ | refine kal ?_ _)); refine blk_far ?_ NB468_482.out _; (with_reducible repeat (first | refine kdN ?_ _ | refine kd1 ?_ | refine kal ?_ _)); refine blk_far ?_ NB468_482.out _; (with_reducible repeat (first | refine kdN ?_ _ | refine kd1 ?_ | refine kal ?_ _)); exact BK468.out⟩, ⟨by (with_reducible repeat (first | refine kdN ?_ _ | refine kd1 ?_ | refine kal ?_ _)); refine blk_far ?_ NB475_482.out _; (with_reducible repeat (first | refine kdN ?_ _ | refine kd1 ?_ | refine kal ?_ _)); refine blk_far ?_ NB475_482.out _; (with_reducible repeat (first | refine kdN ?_ _ | refine kd1 ?_ | refine kal ?_ _)); refine blk_far ?_ NB475_482.out _; (with_reducible repeat (first | refine kdN ?_ _ | refine kd1 ?_ | refine kal ?_ _)); refine blk_far ?_ NB475_482.out _; (with_reducible repeat (first | refine kdN ?_ _ | refine kd1 ?_ | refine kal ?_ _)); refine blk_far ?_ NB475_482.out _; (with_reducible repeat (first | refine kdN ?_ _ | refine kd1 ?_ | refine kal ?_ _)); exact BK475.out⟩, ⟨by (with_reducible repeat (first | refine kdN ?_ _ | refine kd1 ?_ | refine kal ?_ _)); refine blk_put (cs := #[.int .i64 t476, .int .i64 t477, .int .i64 t478, .string t479, .int .i64 0]) ?_ 4 _ rfl; (with_reducible repeat (first | refine kdN ?_ _ | refine kd1 ?_ | refine kal ?_ _)); refine blk_put (cs := #[.int .i64 t476, .int .i64 t477, .int .i64 t478, .string (⟨#[]⟩ : ByteArray), .int .i64 0]) ?_ 3 _ rfl; (with_reducible repeat (first | refine kdN ?_ _ | refine kd1 ?_ | refine kal ?_ _)); refine blk_put (cs := #[.int .i64 t476, .int .i64 t477, .int .i64 0, .string (⟨#[]⟩ : ByteArray), .int .i64 0]) ?_ 2 _ rfl; (with_reducible repeat (first | refine kdN ?_ _ | refine kd1 ?_ | refine kal ?_ _)); refine blk_put (cs := #[.int .i64 t476, .int .i64 0, .int .i64 0, .string (⟨#[]⟩ : ByteArray), .int .i64 0]) ?_ 1 _ rfl; (with_reducible repeat (first | refine kdN ?_ _ | refine kd1 ?_ | refine kal ?_ _)); refine blk_put (cs := #[.int .i64 0, .int .i64 0, .int .i64 0, .string (⟨#[]⟩ : ByteArray), .int .i64 0]) ?_ 0 _ rfl; (with_reducible repeat (first | refine kdN ?_ _ | refine kd1 ?_ | refine kal ?_ _)); exact BK482.out⟩, ⟨by repeat (first | (with_reducible first | exact HB.out | apply bal | apply pbN | apply bd1 | refine bst ?_ GE461.out | refine bst ?_ GE468.out | refine bst ?_ GE475.out | refine bst ?_ GE482.out) | exact HB.out)⟩⟩
      ·rw [if_neg c48] at H
       have c48b0 : (t467 == t481) = false := beq_eq_false_iff_ne.mpr c48
       have c48b1 : (t467 != t481) = true := bne_iff_ne.mpr c48
       have H' := Azz.mk H
       clear H
       have hnb83 := NB461_468.out
       have hnc83 := NB468_461.out
       have hnb84 := NB461_475.out
       have hnc84 := NB475_461.out
       have hnb85 := NB461_482.out
       have hnc85 := NB482_461.out
       have hcz86_0 : World.cell? _ ⟨gb461, 0, none⟩ = some (.int .i64 t455) := (kcl BK461.out 0).trans rfl
       have hcz86_1 : World.cell? _ ⟨gb461, 1, none⟩ = some (.int .i64 t456) := (kcl BK461.out 1).trans rfl
       have hcz86_2 : World.cell? _ ⟨gb461, 2, none⟩ = some (.int .i64 t457) := (kcl BK461.out 2).trans rfl
       have hcz86_3 : World.cell? _ ⟨gb461, 3, none⟩ = some (.int .u32 t458) := (kcl BK461.out 3).trans rfl
       have hcz86_4 : World.cell? _ ⟨gb461, 4, none⟩ = some (.int .i64 t459) := (kcl BK461.out 4).trans rfl
       have hfz86_0 := kfz BK461.out 0
       have hfz86_1 := kfz BK461.out 1
       have hfz86_2 := kfz BK461.out 2
       have hfz86_3 := kfz BK461.out 3
       have hfz86_4 := kfz BK461.out 4
       have hnb87 := NB475_468.out
       have hnc87 := NB468_475.out
       have hnb88 := NB475_482.out
       have hnc88 := NB482_475.out
       have hcz89_0 : World.cell? _ ⟨gb475, 0, none⟩ = some (.int .i64 t469) := (kcl BK475.out 0).trans rfl
       have hcz89_1 : World.cell? _ ⟨gb475, 1, none⟩ = some (.int .i64 t470) := (kcl BK475.out 1).trans rfl
       have hcz89_2 : World.cell? _ ⟨gb475, 2, none⟩ = some (.int .i64 t471) := (kcl BK475.out 2).trans rfl
       have hcz89_3 : World.cell? _ ⟨gb475, 3, none⟩ = some (.int .u32 t472) := (kcl BK475.out 3).trans rfl
       have hcz89_4 : World.cell? _ ⟨gb475, 4, none⟩ = some (.int .i64 t473) := (kcl BK475.out 4).trans rfl
       have hfz89_0 := kfz BK475.out 0
       have hfz89_1 := kfz BK475.out 1
       have hfz89_2 := kfz BK475.out 2
       have hfz89_3 := kfz BK475.out 3
       have hfz89_4 := kfz BK475.out 4
       have hnb90 := NB468_482.out
       have hnc90 := NB482_468.out
       have hcz91_0 : World.cell? _ ⟨gb468, 0, none⟩ = some (.int .i64 t462) := (kcl BK468.out 0).trans rfl
       have hcz91_1 : World.cell? _ ⟨gb468, 1, none⟩ = some (.int .i64 t463) := (kcl BK468.out 1).trans rfl
       have hcz91_2 : World.cell? _ ⟨gb468, 2, none⟩ = some (.int .i64 t464) := (kcl BK468.out 2).trans rfl
       have hcz91_3 : World.cell? _ ⟨gb468, 3, none⟩ = some (.string t465) := (kcl BK468.out 3).trans rfl
       have hcz91_4 : World.cell? _ ⟨gb468, 4, none⟩ = some (.int .i64 t466) := (kcl BK468.out 4).trans rfl
       have hfz91_0 := kfz BK468.out 0
       have hfz91_1 := kfz BK468.out 1
       have hfz91_2 := kfz BK468.out 2
       have hfz91_3 := kfz BK468.out 3
       have hfz91_4 := kfz BK468.out 4
       have hcz92_0 : World.cell? _ ⟨gb482, 0, none⟩ = some (.int .i64 0) := (kcl BK482.out 0).trans rfl
       have hcz92_1 : World.cell? _ ⟨gb482, 1, none⟩ = some (.int .i64 0) := (kcl BK482.out 1).trans rfl
       have hcz92_2 : World.cell? _ ⟨gb482, 2, none⟩ = some (.int .i64 0) := (kcl BK482.out 2).trans rfl
       have hcz92_3 : World.cell? _ ⟨gb482, 3, none⟩ = some (.string (⟨#[]⟩ : ByteArray)) := (kcl BK482.out 3).trans rfl
       have hcz92_4 : World.cell? _ ⟨gb482, 4, none⟩ = some (.int .i64 0) := (kcl BK482.out 4).trans rfl
       have hfz92_0 := kfz BK482.out 0
       have hfz92_1 := kfz BK482.out 1
       have hfz92_2 := kfz BK482.out 2
       have hfz92_3 := kfz BK482.out 3
       have hfz92_4 := kfz BK482.out 4
       go_wp2
       go_meet
       case rel => exact ⟨_, (true), (by first | rfl | (simp; done) | (simp [*]; done)), H', ⟨by first | omega | exact Nat.le_refl _⟩, ⟨by (with_reducible repeat (first | refine kdN ?_ _ | refine kd1 ?_ | refine kal ?_ _)); refine blk_far ?_ NB461_482.out _; (with_reducible repeat (first | refine kdN ?_ _ | refine kd1 ?_ | refine kal ?_ _)); refine blk_far ?_ NB461_482.out _; (with_reducible repeat (first | refine kdN ?_ _ | refine kd1 ?_ | refine kal ?_ _)); refine blk_far ?_ NB461_482.out _; (with_reducible repeat (first | refine kdN ?_ _ | refine kd1 ?_ | refine kal ?_ _)); refine blk_far ?_ NB461_482.out _; (with_reducible repeat (first | refine kdN ?_ _ | refine kd1 ?_ | refine kal ?_ _)); refine blk_far ?_ NB461_482.out _; (with_reducible repeat (first | refine kdN ?_ _ | refine kd1 ?_ | refine kal ?_ _)); exact BK461.out⟩, ⟨by (with_reducible repeat (first | refine kdN ?_ _ | refine kd1 ?_ | refine kal ?_ _)); refine blk_far ?_ NB468_482.out _; (with_reducible repeat (first | refine kdN ?_ _ | refine kd1 ?_ | refine kal ?_ _)); refine blk_far ?_ NB468_482.out _; (with_reducible repeat (first | refine kdN ?_ _ | refine kd1 ?_ | refine kal ?_ _)); refine blk_far ?_ NB468_482.out _; (with_reducible repeat (first | refine kdN ?_ _ | refine kd1 ?_ | refine kal ?_ _)); refine blk_far ?_ NB468_482.out _; (with_reducible repeat (first | refine kdN ?_ _ | refine kd1 ?_ | refine kal ?_ _)); refine blk_far ?_ NB468_482.out _; (with_reducible repeat (first | refine kdN ?_ _ | refine kd1 ?_ | refine kal ?_ _)); exact BK468.out⟩, ⟨by (with_reducible repeat (first | refine kdN ?_ _ | refine kd1 ?_ | refine kal ?_ _)); refine blk_far ?_ NB475_482.out _; (with_reducible repeat (first | refine kdN ?_ _ | refine kd1 ?_ | refine kal ?_ _)); refine blk_far ?_ NB475_482.out _; (with_reducible repeat (first | refine kdN ?_ _ | refine kd1 ?_ | refine kal ?_ _)); refine blk_far ?_ NB475_482.out _; (with_reducible repeat (first | refine kdN ?_ _ | refine kd1 ?_ | refine kal ?_ _)); refine blk_far ?_ NB475_482.out _; (with_reducible repeat (first | refine kdN ?_ _ | refine kd1 ?_ | refine kal ?_ _)); refine blk_far ?_ NB475_482.out _; (with_reducible repeat (first | refine kdN ?_ _ | refine kd1 ?_ | refine kal ?_ _)); exact BK475.out⟩, ⟨by (with_reducible repeat (first | refine kdN ?_ _ | refine kd1 ?_ | refine kal ?_ _)); refine blk_put (cs := #[.int .i64 t476, .int .i64 t477, .int .i64 t478, .string t479, .int .i64 0]) ?_ 4 _ rfl; (with_reducible repeat (first | refine kdN ?_ _ | refine kd1 ?_ | refine kal ?_ _)); refine blk_put (cs := #[.int .i64 t476, .int .i64 t477, .int .i64 t478, .string (⟨#[]⟩ : ByteArray), .int .i64 0]) ?_ 3 _ rfl; (with_reducible repeat (first | refine kdN ?_ _ | refine kd1 ?_ | refine kal ?_ _)); refine blk_put (cs := #[.int .i64 t476, .int .i64 t477, .int .i64 0, .string (⟨#[]⟩ : ByteArray), .int .i64 0]) ?_ 2 _ rfl; (with_reducible repeat (first | refine kdN ?_ _ | refine kd1 ?_ | refine kal ?_ _)); refine blk_put (cs := #[.int .i64 t476, .int .i64 0, .int .i64 0, .string (⟨#[]⟩ : ByteArray), .int .i64 0]) ?_ 1 _ rfl; (with_reducible repeat (first | refine kdN ?_ _ | refine kd1 ?_ | refine kal ?_ _)); refine blk_put (cs := #[.int .i64 0, .int .i64 0, .int .i64 0, .string (⟨#[]⟩ : ByteArray), .int .i64 0]) ?_ 0 _ rfl; (with_reducible repeat (first | refine kdN ?_ _ | refine kd1 ?_ | refine kal ?_ _)); exact BK482.out⟩, ⟨by repeat (first | (with_reducible first | exact HB.out | apply bal | apply pbN | apply bd1 | refine bst ?_ GE461.out | refine bst ?_ GE468.out | refine bst ?_ GE475.out | refine bst ?_ GE482.out) | exact HB.out)⟩⟩
    ·rw [if_neg c36] at H
     have c36b0 : (t460 == t474) = false := beq_eq_false_iff_ne.mpr c36
     have c36b1 : (t460 != t474) = true := bne_iff_ne.mpr c36
     have H' := Azz.mk H
     clear H
     have hnb93 := NB461_468.out
     have hnc93 := NB468_461.out
     have hnb94 := NB461_475.out
     have hnc94 := NB475_461.out
     have hnb95 := NB461_482.out
     have hnc95 := NB482_461.out
     have hcz96_0 : World.cell? _ ⟨gb461, 0, none⟩ = some (.int .i64 t455) := (kcl BK461.out 0).trans rfl
     have hcz96_1 : World.cell? _ ⟨gb461, 1, none⟩ = some (.int .i64 t456) := (kcl BK461.out 1).trans rfl
     have hcz96_2 : World.cell? _ ⟨gb461, 2, none⟩ = some (.int .i64 t457) := (kcl BK461.out 2).trans rfl
     have hcz96_3 : World.cell? _ ⟨gb461, 3, none⟩ = some (.int .u32 t458) := (kcl BK461.out 3).trans rfl
     have hcz96_4 : World.cell? _ ⟨gb461, 4, none⟩ = some (.int .i64 t459) := (kcl BK461.out 4).trans rfl
     have hfz96_0 := kfz BK461.out 0
     have hfz96_1 := kfz BK461.out 1
     have hfz96_2 := kfz BK461.out 2
     have hfz96_3 := kfz BK461.out 3
     have hfz96_4 := kfz BK461.out 4
     have hnb97 := NB475_468.out
     have hnc97 := NB468_475.out
     have hnb98 := NB475_482.out
     have hnc98 := NB482_475.out
     have hcz99_0 : World.cell? _ ⟨gb475, 0, none⟩ = some (.int .i64 t469) := (kcl BK475.out 0).trans rfl
     have hcz99_1 : World.cell? _ ⟨gb475, 1, none⟩ = some (.int .i64 t470) := (kcl BK475.out 1).trans rfl
     have hcz99_2 : World.cell? _ ⟨gb475, 2, none⟩ = some (.int .i64 t471) := (kcl BK475.out 2).trans rfl
     have hcz99_3 : World.cell? _ ⟨gb475, 3, none⟩ = some (.int .u32 t472) := (kcl BK475.out 3).trans rfl
     have hcz99_4 : World.cell? _ ⟨gb475, 4, none⟩ = some (.int .i64 t473) := (kcl BK475.out 4).trans rfl
     have hfz99_0 := kfz BK475.out 0
     have hfz99_1 := kfz BK475.out 1
     have hfz99_2 := kfz BK475.out 2
     have hfz99_3 := kfz BK475.out 3
     have hfz99_4 := kfz BK475.out 4
     go_wp2
     go_meet
     case rel => exact ⟨_, (true), (by first | rfl | (simp; done) | (simp [*]; done)), H', ⟨by first | omega | exact Nat.le_refl _⟩, ⟨by (with_reducible repeat (first | refine kdN ?_ _ | refine kd1 ?_ | refine kal ?_ _)); refine blk_far ?_ NB461_482.out _; (with_reducible repeat (first | refine kdN ?_ _ | refine kd1 ?_ | refine kal ?_ _)); refine blk_far ?_ NB461_482.out _; (with_reducible repeat (first | refine kdN ?_ _ | refine kd1 ?_ | refine kal ?_ _)); refine blk_far ?_ NB461_482.out _; (with_reducible repeat (first | refine kdN ?_ _ | refine kd1 ?_ | refine kal ?_ _)); refine blk_far ?_ NB461_482.out _; (with_reducible repeat (first | refine kdN ?_ _ | refine kd1 ?_ | refine kal ?_ _)); refine blk_far ?_ NB461_482.out _; (with_reducible repeat (first | refine kdN ?_ _ | refine kd1 ?_ | refine kal ?_ _)); exact BK461.out⟩, ⟨by (with_reducible repeat (first | refine kdN ?_ _ | refine kd1 ?_ | refine kal ?_ _)); refine blk_far ?_ NB468_482.out _; (with_reducible repeat (first | refine kdN ?_ _ | refine kd1 ?_ | refine kal ?_ _)); refine blk_far ?_ NB468_482.out _; (with_reducible repeat (first | refine kdN ?_ _ | refine kd1 ?_ | refine kal ?_ _)); refine blk_far ?_ NB468_482.out _; (with_reducible repeat (first | refine kdN ?_ _ | refine kd1 ?_ | refine kal ?_ _)); refine blk_far ?_ NB468_482.out _; (with_reducible repeat (first | refine kdN ?_ _ | refine kd1 ?_ | refine kal ?_ _)); refine blk_far ?_ NB468_482.out _; (with_reducible repeat (first | refine kdN ?_ _ | refine kd1 ?_ | refine kal ?_ _)); exact BK468.out⟩, ⟨by (with_reducible repeat (first | refine kdN ?_ _ | refine kd1 ?_ | refine kal ?_ _)); refine blk_far ?_ NB475_482.out _; (with_reducible repeat (first | refine kdN ?_ _ | refine kd1 ?_ | refine kal ?_ _)); refine blk_far ?_ NB475_482.out _; (with_reducible repeat (first | refine kdN ?_ _ | refine kd1 ?_ | refine kal ?_ _)); refine blk_far ?_ NB475_482.out _; (with_reducible repeat (first | refine kdN ?_ _ | refine kd1 ?_ | refine kal ?_ _)); refine blk_far ?_ NB475_482.out _; (with_reducible repeat (first | refine kdN ?_ _ | refine kd1 ?_ | refine kal ?_ _)); refine blk_far ?_ NB475_482.out _; (with_reducible repeat (first | refine kdN ?_ _ | refine kd1 ?_ | refine kal ?_ _)); exact BK475.out⟩, ⟨by (with_reducible repeat (first | refine kdN ?_ _ | refine kd1 ?_ | refine kal ?_ _)); refine blk_put (cs := #[.int .i64 t476, .int .i64 t477, .int .i64 t478, .string t479, .int .i64 0]) ?_ 4 _ rfl; (with_reducible repeat (first | refine kdN ?_ _ | refine kd1 ?_ | refine kal ?_ _)); refine blk_put (cs := #[.int .i64 t476, .int .i64 t477, .int .i64 t478, .string (⟨#[]⟩ : ByteArray), .int .i64 0]) ?_ 3 _ rfl; (with_reducible repeat (first | refine kdN ?_ _ | refine kd1 ?_ | refine kal ?_ _)); refine blk_put (cs := #[.int .i64 t476, .int .i64 t477, .int .i64 0, .string (⟨#[]⟩ : ByteArray), .int .i64 0]) ?_ 2 _ rfl; (with_reducible repeat (first | refine kdN ?_ _ | refine kd1 ?_ | refine kal ?_ _)); refine blk_put (cs := #[.int .i64 t476, .int .i64 0, .int .i64 0, .string (⟨#[]⟩ : ByteArray), .int .i64 0]) ?_ 1 _ rfl; (with_reducible repeat (first | refine kdN ?_ _ | refine kd1 ?_ | refine kal ?_ _)); refine blk_put (cs := #[.int .i64 0, .int .i64 0, .int .i64 0, .string (⟨#[]⟩ : ByteArray), .int .i64 0]) ?_ 0 _ rfl; (with_reducible repeat (first | refine kdN ?_ _ | refine kd1 ?_ | refine kal ?_ _)); exact BK482.out⟩, ⟨by repeat (first | (with_reducible first | exact HB.out | apply bal | apply pbN | apply bd1 | refine bst ?_ GE461.out | refine bst ?_ GE468.out | refine bst ?_ GE475.out | refine bst ?_ GE482.out) | exact HB.out)⟩⟩
  case rest =>
   clear HC8
   try clear c1
   try clear c2
   try clear p2
   try clear c3
   try clear c4
   try clear c5
   try clear c6
   try clear c7
   try clear c8
   try clear c9
   try clear c11
   try clear c14
   try clear c15
   try clear c19
   try clear c20
   try clear c21
   try clear c22
   try clear c24
   try clear c25
   try clear c26
   try clear c28
   try clear c28b0
   try clear c29
   try clear c30
   try clear c31
   try clear c33
   try clear c34
   try clear c36
   try clear c36b0
   try clear c36b1
   try clear c37
   try clear c37b0
   try clear c38
   try clear c39
   try clear c40
   try clear c42
   try clear c43
   try clear c45
   try clear c48
   try clear c48b0
   try clear c48b1
   try clear c51
   try clear c51b0
   try clear c51b1
   try clear c52
   try clear c52b0
   try clear c52b1
   try clear c53
   try clear c54
   try clear c55
   try clear c57
   try clear c58
   try clear c60
   try clear c63
   try clear c64
   try clear c65
   try clear c67
   try clear c68
   try clear c70
   try clear c73
   try clear c74
   try clear c75
   try clear c77
   try clear c78
   try clear c80
   try clear c83
   try clear c84
   try clear c85
   try clear c87
   try clear c88
   try clear c90
   try clear c93
   try clear c94
   try clear c95
   try clear c97
   try clear c98
   try clear hcz12_0
   try clear hcz12_1
   try clear hcz12_2
   try clear hcz12_3
   try clear hcz12_4
   try clear hcz16_0
   try clear hcz16_1
   try clear hcz16_2
   try clear hcz16_3
   try clear hcz16_4
   try clear hcz21_0
   try clear hcz21_1
   try clear hcz21_2
   try clear hcz21_3
   try clear hcz21_4
   try clear hcz27_0
   try clear hcz27_1
   try clear hcz27_2
   try clear hcz27_3
   try clear hcz27_4
   try clear hcz32_0
   try clear hcz32_1
   try clear hcz32_2
   try clear hcz32_3
   try clear hcz32_4
   try clear hcz35_0
   try clear hcz35_1
   try clear hcz35_2
   try clear hcz35_3
   try clear hcz35_4
   try clear hcz41_0
   try clear hcz41_1
   try clear hcz41_2
   try clear hcz41_3
   try clear hcz41_4
   try clear hcz44_0
   try clear hcz44_1
   try clear hcz44_2
   try clear hcz44_3
   try clear hcz44_4
   try clear hcz46_0
   try clear hcz46_1
   try clear hcz46_2
   try clear hcz46_3
   try clear hcz46_4
   try clear hcz47_0
   try clear hcz47_1
   try clear hcz47_2
   try clear hcz47_3
   try clear hcz47_4
   try clear hcz56_0
   try clear hcz56_1
   try clear hcz56_2
   try clear hcz56_3
   try clear hcz56_4
   try clear hcz59_0
   try clear hcz59_1
   try clear hcz59_2
   try clear hcz59_3
   try clear hcz59_4
   try clear hcz61_0
   try clear hcz61_1
   try clear hcz61_2
   try clear hcz61_3
   try clear hcz61_4
   try clear hcz62_0
   try clear hcz62_1
   try clear hcz62_2
   try clear hcz62_3
   try clear hcz62_4
   try clear hcz66_0
   try clear hcz66_1
   try clear hcz66_2
   try clear hcz66_3
   try clear hcz66_4
   try clear hcz69_0
   try clear hcz69_1
   try clear hcz69_2
   try clear hcz69_3
   try clear hcz69_4
   try clear hcz71_0
   try clear hcz71_1
   try clear hcz71_2
   try clear hcz71_3
   try clear hcz71_4
   try clear hcz72_0
   try clear hcz72_1
   try clear hcz72_2
   try clear hcz72_3
   try clear hcz72_4
   try clear hcz76_0
   try clear hcz76_1
   try clear hcz76_2
   try clear hcz76_3
   try clear hcz76_4
   try clear hcz79_0
   try clear hcz79_1
   try clear hcz79_2
   try clear hcz79_3
   try clear hcz79_4
   try clear hcz81_0
   try clear hcz81_1
   try clear hcz81_2
   try clear hcz81_3
   try clear hcz81_4
   try clear hcz82_0
   try clear hcz82_1
   try clear hcz82_2
   try clear hcz82_3
   try clear hcz82_4
   try clear hcz86_0
   try clear hcz86_1
   try clear hcz86_2
   try clear hcz86_3
   try clear hcz86_4
   try clear hcz89_0
   try clear hcz89_1
   try clear hcz89_2
   try clear hcz89_3
   try clear hcz89_4
   try clear hcz91_0
   try clear hcz91_1
   try clear hcz91_2
   try clear hcz91_3
   try clear hcz91_4
   try clear hcz92_0
   try clear hcz92_1
   try clear hcz92_2
   try clear hcz92_3
   try clear hcz92_4
   try clear hcz96_0
   try clear hcz96_1
   try clear hcz96_2
   try clear hcz96_3
   try clear hcz96_4
   try clear hcz99_0
   try clear hcz99_1
   try clear hcz99_2
   try clear hcz99_3
   try clear hcz99_4
   try clear hfz12_0
   try clear hfz12_1
   try clear hfz12_2
   try clear hfz12_3
   try clear hfz12_4
   try clear hfz16_0
   try clear hfz16_1
   try clear hfz16_2
   try clear hfz16_3
   try clear hfz16_4
   try clear hfz21_0
   try clear hfz21_1
   try clear hfz21_2
   try clear hfz21_3
   try clear hfz21_4
   try clear hfz27_0
   try clear hfz27_1
   try clear hfz27_2
   try clear hfz27_3
   try clear hfz27_4
   try clear hfz32_0
   try clear hfz32_1
   try clear hfz32_2
   try clear hfz32_3
   try clear hfz32_4
   try clear hfz35_0
   try clear hfz35_1
   try clear hfz35_2
   try clear hfz35_3
   try clear hfz35_4
   try clear hfz41_0
   try clear hfz41_1
   try clear hfz41_2
   try clear hfz41_3
   try clear hfz41_4
   try clear hfz44_0
   try clear hfz44_1
   try clear hfz44_2
   try clear hfz44_3
   try clear hfz44_4
   try clear hfz46_0
   try clear hfz46_1
   try clear hfz46_2
   try clear hfz46_3
   try clear hfz46_4
   try clear hfz47_0
   try clear hfz47_1
   try clear hfz47_2
   try clear hfz47_3
   try clear hfz47_4
   try clear hfz56_0
   try clear hfz56_1
   try clear hfz56_2
   try clear hfz56_3
   try clear hfz56_4
   try clear hfz59_0
   try clear hfz59_1
   try clear hfz59_2
   try clear hfz59_3
   try clear hfz59_4
   try clear hfz61_0
   try clear hfz61_1
   try clear hfz61_2
   try clear hfz61_3
   try clear hfz61_4
   try clear hfz62_0
   try clear hfz62_1
   try clear hfz62_2
   try clear hfz62_3
   try clear hfz62_4
   try clear hfz66_0
   try clear hfz66_1
   try clear hfz66_2
   try clear hfz66_3
   try clear hfz66_4
   try clear hfz69_0
   try clear hfz69_1
   try clear hfz69_2
   try clear hfz69_3
   try clear hfz69_4
   try clear hfz71_0
   try clear hfz71_1
   try clear hfz71_2
   try clear hfz71_3
   try clear hfz71_4
   try clear hfz72_0
   try clear hfz72_1
   try clear hfz72_2
   try clear hfz72_3
   try clear hfz72_4
   try clear hfz76_0
   try clear hfz76_1
   try clear hfz76_2
   try clear hfz76_3
   try clear hfz76_4
   try clear hfz79_0
   try clear hfz79_1
   try clear hfz79_2
   try clear hfz79_3
   try clear hfz79_4
   try clear hfz81_0
   try clear hfz81_1
   try clear hfz81_2
   try clear hfz81_3
   try clear hfz81_4
   try clear hfz82_0
   try clear hfz82_1
   try clear hfz82_2
   try clear hfz82_3
   try clear hfz82_4
   try clear hfz86_0
   try clear hfz86_1
   try clear hfz86_2
   try clear hfz86_3
   try clear hfz86_4
   try clear hfz89_0
   try clear hfz89_1
   try clear hfz89_2
   try clear hfz89_3
   try clear hfz89_4
   try clear hfz91_0
   try clear hfz91_1
   try clear hfz91_2
   try clear hfz91_3
   try clear hfz91_4
   try clear hfz92_0
   try clear hfz92_1
   try clear hfz92_2
   try clear hfz92_3
   try clear hfz92_4
   try clear hfz96_0
   try clear hfz96_1
   try clear hfz96_2
   try clear hfz96_3
   try clear hfz96_4
   try clear hfz99_0
   try clear hfz99_1
   try clear hfz99_2
   try clear hfz99_3
   try clear hfz99_4
   obtain ⟨kq, x69_7, rfl, HA, HJ7, BK461, BK468, BK475, BK482, HB⟩ := hcut
   cases kq with
   | zero => exact absurd HA.out (by simp [lw_FrameReads.j0])
   | succ kj7 =>
    have H := HA.out
    clear HA
    simp only [lw_FrameReads.j0] at H
    by_cases c100 : x69_7 = true
    ·subst c100
     have H1 : (none) = some r := by rw [if_pos rfl] at H; exact H
     clear H
     have H := H1
     clear H1
     exact absurd H (by simp)
    ·replace c100 := Bool.eq_false_iff.mpr c100
     subst c100
     have H1 : (if t460 = 0 then ((frame_Control.f kj7 t455 t456 t457 t458 t459).bind fun bt485 => (if bt485.2 = 0 then (some ((strOfNums bt485.1).toList == (strOfNums l0).toList)) else (none))) else (if t467 = 0 then ((frame_Data.f kj7 t462 t463 t464 t465 t466).bind fun bt489 => (if bt489.2 = 0 then (some ((strOfNums bt489.1).toList == (strOfNums l0).toList)) else (none))) else (some true))) = some r := by rw [if_neg (show ¬ (false = true) by decide)] at H; exact H
     clear H
     have H := H1
     clear H1
     by_cases c101 : t460 = 0
     ·rw [if_pos c101] at H
      have c101b0 : (t460 == 0) = true := beq_iff_eq.mpr c101
      have c101b1 : (t460 != 0) = false := bne_eq_false_iff_eq.mpr c101
      clear c101
      replace H := Option.bind_eq_some_iff.mp H
      obtain ⟨⟨t485, t488⟩, A1020, H⟩ := H
      replace H : (if t488 = 0 then (some ((strOfNums t485).toList == (strOfNums l0).toList)) else (none)) = some r := H
      have A102 := Azz.mk A1020
      clear A1020
      by_cases c103 : t488 = 0
      ·rw [if_pos c103] at H
       have c103b0 : (t488 == 0) = true := beq_iff_eq.mpr c103
       have c103b1 : (t488 != 0) = false := bne_eq_false_iff_eq.mpr c103
       clear c103
       obtain rfl := Option.some.inj H
       have hnb104 := NB461_468.out
       have hnc104 := NB468_461.out
       have hnb105 := NB461_475.out
       have hnc105 := NB475_461.out
       have hnb106 := NB461_482.out
       have hnc106 := NB482_461.out
       have hcz107_0 : World.cell? _ ⟨gb461, 0, none⟩ = some (.int .i64 t455) := (kcl BK461.out 0).trans rfl
       have hcz107_1 : World.cell? _ ⟨gb461, 1, none⟩ = some (.int .i64 t456) := (kcl BK461.out 1).trans rfl
       have hcz107_2 : World.cell? _ ⟨gb461, 2, none⟩ = some (.int .i64 t457) := (kcl BK461.out 2).trans rfl
       have hcz107_3 : World.cell? _ ⟨gb461, 3, none⟩ = some (.int .u32 t458) := (kcl BK461.out 3).trans rfl
       have hcz107_4 : World.cell? _ ⟨gb461, 4, none⟩ = some (.int .i64 t459) := (kcl BK461.out 4).trans rfl
       have hfz107_0 := kfz BK461.out 0
       have hfz107_1 := kfz BK461.out 1
       have hfz107_2 := kfz BK461.out 2
       have hfz107_3 := kfz BK461.out 3
       have hfz107_4 := kfz BK461.out 4
       go_wp2_with (first | ((with_reducible refine gate_callee (f := 12) rfl ?_); refine goesL_ (some 74) rfl rfl Try.func12 (by kernel_rfl) rfl #[.agg #[.int .i64 t455, .int .i64 t456, .int .i64 t457, .int .u32 t458, .int .i64 t459]] rfl (by (try simp only [List.map_toArray, List.map_cons, List.map_nil]); first | done | rfl | (simp only [List.length_drop, List.length_take]; rfl)) ?_; (with_reducible refine (frame_Control.calls kj7 t455 t456 t457 t458 t459 t485 t488 _ A102.out).mono ?_); rintro e w108 ⟨v486, rfl, ho0, hb⟩; refine ⟨_, rfl, ?_⟩; have n0_ := Azz.mk (Kd.R_lower ho0 (below_size (by repeat (first | (with_reducible first | exact HB.out | apply bal | apply pbN | apply bd1 | refine bst ?_ GE461.out | refine bst ?_ GE468.out | refine bst ?_ GE475.out | refine bst ?_ GE482.out) | exact HB.out)))); have n1_ := Azz.mk (blk_below (g := gb461) (o := .cells #[.int .i64 t455, .int .i64 t456, .int .i64 t457, .int .u32 t458, .int .i64 t459] 24 (0, 0)) (by (with_reducible repeat (first | refine kdN ?_ _ | refine kd1 ?_ | refine kal ?_ _)); exact BK461.out) hb); have n2_ := Azz.mk (blk_below (g := gb468) (o := .cells #[.int .i64 t462, .int .i64 t463, .int .i64 t464, .string t465, .int .i64 t466] 36 (0, 0)) (by (with_reducible repeat (first | refine kdN ?_ _ | refine kd1 ?_ | refine kal ?_ _)); exact BK468.out) hb); have n3_ := Azz.mk (blk_below (g := gb475) (o := .cells #[.int .i64 t469, .int .i64 t470, .int .i64 t471, .int .u32 t472, .int .i64 t473] 24 (0, 0)) (by (with_reducible repeat (first | refine kdN ?_ _ | refine kd1 ?_ | refine kal ?_ _)); exact BK475.out) hb); have n4_ := Azz.mk (blk_below (g := gb482) (o := .cells #[.int .i64 t476, .int .i64 t477, .int .i64 t478, .string t479, .int .i64 t480] 36 (0, 0)) (by (with_reducible repeat (first | refine kdN ?_ _ | refine kd1 ?_ | refine kal ?_ _)); exact BK482.out) hb); have n5_ := Azz.mk (below_step (by repeat (first | (with_reducible first | exact HB.out | apply bal | apply pbN | apply bd1 | refine bst ?_ GE461.out | refine bst ?_ GE468.out | refine bst ?_ GE475.out | refine bst ?_ GE482.out) | exact HB.out)) hb); clear BK461; clear BK468; clear BK475; clear BK482; clear HB; have HO487 := n0_; have BK461 := n1_; have BK468 := n2_; have BK475 := n3_; have BK482 := n4_; have HB := n5_; clear n0_ n1_ n2_ n3_ n4_ n5_; (try clear hb); (try clear hb2); (try clear hk); (try clear hi); (try clear ho0); have hcv109 := own_string (P := Try.prog) Try.underlying26 Try.underlying5 Try.underlying9 (Kd.own_of_R HO487.out); have hcv110 := Kd.C_string (P := Try.prog) (A := A0) (c := c0) Try.underlying26 Try.underlying5 Try.underlying9 (Kd.C_below HR0.out (by repeat (first | (with_reducible first | exact HB.out | apply bal | apply pbN | apply bd1 | refine bst ?_ GE461.out | refine bst ?_ GE468.out | refine bst ?_ GE475.out | refine bst ?_ GE482.out) | exact HB.out)))))
       go_ret
       exact ⟨by first | rfl | (simp [errW_none, errW_some] <;> rfl) | (simp [*, errW_none, errW_some] <;> rfl), by repeat (first | (with_reducible first | exact HB.out | apply bal | apply pbN | apply bd1 | refine bst ?_ GE461.out | refine bst ?_ GE468.out | refine bst ?_ GE475.out | refine bst ?_ GE482.out) | exact HB.out)⟩
      ·rw [if_neg c103] at H
       exact absurd H (by simp)
     ·rw [if_neg c101] at H
      have c101b0 : (t460 == 0) = false := beq_eq_false_iff_ne.mpr c101
      have c101b1 : (t460 != 0) = true := bne_iff_ne.mpr c101
      by_cases c111 : t467 = 0
      ·rw [if_pos c111] at H
       have c111b0 : (t467 == 0) = true := beq_iff_eq.mpr c111
       have c111b1 : (t467 != 0) = false := bne_eq_false_iff_eq.mpr c111
       clear c111
       replace H := Option.bind_eq_some_iff.mp H
       obtain ⟨⟨t489, t492⟩, A1120, H⟩ := H
       replace H : (if t492 = 0 then (some ((strOfNums t489).toList == (strOfNums l0).toList)) else (none)) = some r := H
       have A112 := Azz.mk A1120
       clear A1120
       by_cases c113 : t492 = 0
       ·rw [if_pos c113] at H
        have c113b0 : (t492 == 0) = true := beq_iff_eq.mpr c113
        have c113b1 : (t492 != 0) = false := bne_eq_false_iff_eq.mpr c113
        clear c113
        obtain rfl := Option.some.inj H
        have hnb114 := NB468_461.out
        have hnc114 := NB461_468.out
        have hnb115 := NB468_475.out
        have hnc115 := NB475_468.out
        have hnb116 := NB468_482.out
        have hnc116 := NB482_468.out
        have hcz117_0 : World.cell? _ ⟨gb468, 0, none⟩ = some (.int .i64 t462) := (kcl BK468.out 0).trans rfl
        have hcz117_1 : World.cell? _ ⟨gb468, 1, none⟩ = some (.int .i64 t463) := (kcl BK468.out 1).trans rfl
        have hcz117_2 : World.cell? _ ⟨gb468, 2, none⟩ = some (.int .i64 t464) := (kcl BK468.out 2).trans rfl
        have hcz117_3 : World.cell? _ ⟨gb468, 3, none⟩ = some (.string t465) := (kcl BK468.out 3).trans rfl
        have hcz117_4 : World.cell? _ ⟨gb468, 4, none⟩ = some (.int .i64 t466) := (kcl BK468.out 4).trans rfl
        have hfz117_0 := kfz BK468.out 0
        have hfz117_1 := kfz BK468.out 1
        have hfz117_2 := kfz BK468.out 2
        have hfz117_3 := kfz BK468.out 3
        have hfz117_4 := kfz BK468.out 4
        go_wp2_with (first | ((with_reducible refine gate_callee (f := 17) rfl ?_); refine goesL_ (some 90) rfl rfl Try.func17 (by kernel_rfl) rfl #[.agg #[.int .i64 t462, .int .i64 t463, .int .i64 t464, .string t465, .int .i64 t466]] rfl (by (try simp only [List.map_toArray, List.map_cons, List.map_nil]); first | done | rfl | (simp only [List.length_drop, List.length_take]; rfl)) ?_; (with_reducible refine (frame_Data.calls kj7 t462 t463 t464 t465 t466 t489 t492 _ A112.out).mono ?_); rintro e w118 ⟨v490, rfl, ho0, hb⟩; refine ⟨_, rfl, ?_⟩; have n0_ := Azz.mk (Kd.R_lower ho0 (below_size (by repeat (first | (with_reducible first | exact HB.out | apply bal | apply pbN | apply bd1 | refine bst ?_ GE461.out | refine bst ?_ GE468.out | refine bst ?_ GE475.out | refine bst ?_ GE482.out) | exact HB.out)))); have n1_ := Azz.mk (blk_below (g := gb461) (o := .cells #[.int .i64 t455, .int .i64 t456, .int .i64 t457, .int .u32 t458, .int .i64 t459] 24 (0, 0)) (by (with_reducible repeat (first | refine kdN ?_ _ | refine kd1 ?_ | refine kal ?_ _)); exact BK461.out) hb); have n2_ := Azz.mk (blk_below (g := gb468) (o := .cells #[.int .i64 t462, .int .i64 t463, .int .i64 t464, .string t465, .int .i64 t466] 36 (0, 0)) (by (with_reducible repeat (first | refine kdN ?_ _ | refine kd1 ?_ | refine kal ?_ _)); exact BK468.out) hb); have n3_ := Azz.mk (blk_below (g := gb475) (o := .cells #[.int .i64 t469, .int .i64 t470, .int .i64 t471, .int .u32 t472, .int .i64 t473] 24 (0, 0)) (by (with_reducible repeat (first | refine kdN ?_ _ | refine kd1 ?_ | refine kal ?_ _)); exact BK475.out) hb); have n4_ := Azz.mk (blk_below (g := gb482) (o := .cells #[.int .i64 t476, .int .i64 t477, .int .i64 t478, .string t479, .int .i64 t480] 36 (0, 0)) (by (with_reducible repeat (first | refine kdN ?_ _ | refine kd1 ?_ | refine kal ?_ _)); exact BK482.out) hb); have n5_ := Azz.mk (below_step (by repeat (first | (with_reducible first | exact HB.out | apply bal | apply pbN | apply bd1 | refine bst ?_ GE461.out | refine bst ?_ GE468.out | refine bst ?_ GE475.out | refine bst ?_ GE482.out) | exact HB.out)) hb); clear BK461; clear BK468; clear BK475; clear BK482; clear HB; have HO491 := n0_; have BK461 := n1_; have BK468 := n2_; have BK475 := n3_; have BK482 := n4_; have HB := n5_; clear n0_ n1_ n2_ n3_ n4_ n5_; (try clear hb); (try clear hb2); (try clear hk); (try clear hi); (try clear ho0); have hcv119 := own_string (P := Try.prog) Try.underlying26 Try.underlying5 Try.underlying9 (Kd.own_of_R HO491.out); have hcv120 := Kd.C_string (P := Try.prog) (A := A0) (c := c0) Try.underlying26 Try.underlying5 Try.underlying9 (Kd.C_below HR0.out (by repeat (first | (with_reducible first | exact HB.out | apply bal | apply pbN | apply bd1 | refine bst ?_ GE461.out | refine bst ?_ GE468.out | refine bst ?_ GE475.out | refine bst ?_ GE482.out) | exact HB.out)))))
        go_ret
        exact ⟨by first | rfl | (simp [errW_none, errW_some] <;> rfl) | (simp [*, errW_none, errW_some] <;> rfl), by repeat (first | (with_reducible first | exact HB.out | apply bal | apply pbN | apply bd1 | refine bst ?_ GE461.out | refine bst ?_ GE468.out | refine bst ?_ GE475.out | refine bst ?_ GE482.out) | exact HB.out)⟩
       ·rw [if_neg c113] at H
        exact absurd H (by simp)
      ·rw [if_neg c111] at H
       have c111b0 : (t467 == 0) = false := beq_eq_false_iff_ne.mpr c111
       have c111b1 : (t467 != 0) = true := bne_iff_ne.mpr c111
       obtain rfl := Option.some.inj H
       go_wp2
       go_ret
       exact ⟨by first | rfl | (simp [errW_none, errW_some] <;> rfl) | (simp [*, errW_none, errW_some] <;> rfl), by repeat (first | (with_reducible first | exact HB.out | apply bal | apply pbN | apply bd1 | refine bst ?_ GE461.out | refine bst ?_ GE468.out | refine bst ?_ GE475.out | refine bst ?_ GE482.out) | exact HB.out)⟩
 ·replace c3 := Bool.eq_false_iff.mpr c3
  subst c3
  have H1 : (none) = some r := by rw [if_neg (show ¬ (false = true) by decide)] at H; exact H
  clear H
  have H := H1
  clear H1
  exact absurd H (by simp)

/-- THE ONE PURE STATEMENT of lw_FrameReads: yours. -/
def lw_FrameReads.Pure : Prop := ∀ (l0 : List Int), l0.length ≤ maxLen → l0.length * 1 ≤ 140737488351232 → (∀ x ∈ l0, (Lit.int .u8 x).wf = true) → ∃ k, lw_FrameReads.f k l0 = some true
theorem lw_FrameReads.walk (P : lw_FrameReads.Pure) (a0 : Option Addr) (len0 cap0 : Nat) (z0 : List Int) (w : World) (w0 : (a0 = none ∧ len0 = 0 ∧ cap0 = 0 ∧ z0 = []) ∨ ∃ x, a0 = some x ∧ len0 ≤ cap0 ∧ cap0 ≤ maxLen ∧ z0.length = cap0 ∧ (∀ i, i < z0.length → w.cell? (x.add i) = some (.int .u8 (z0.getD i 0))) ∧ ∀ n ∈ z0, (Lit.int .u8 n).wf = true) (y0 : len0 * 1 ≤ 140737488351232) :
  Calls Try.prog 5 #[.slice a0 len0 cap0] w fun e w' => e = .returned (.bool true) ∧ Below w.heap.size w w' := by
 obtain ⟨l0, rfl, hr0, hm0, hw0, hc0⟩ := ReadsInt.ofRowC w0
 obtain ⟨k, h⟩ := P l0 hm0 y0 hw0
 refine (lw_FrameReads.calls k _ _ l0 true w (Kd.C_of_reads (d := (0 : Int)) (h1 := fun _ => rfl) hr0) hc0 h).mono ?_
 rintro e w' ⟨rfl, hd⟩
 exact ⟨rfl, hd⟩

end Go.Proofs.Ytgeheedfmdlefaa.PF
end
