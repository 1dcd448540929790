-- Written by a program for this claim.
import Derived.Test.YtgeheedfmdlefaaPFx0
import Derived.Test.YtgeheedfmdlefaaPFx1
import Derived.Test.YtgeheedfmdlefaaPFx6
import Derived.Test.YtgeheedfmdlefaaPFx8
import Derived.Test.YtgeheedfmdlefaaPFx10
import Derived.Test.YtgeheedfmdlefaaPFx15
import Derived.Test.YtgeheedfmdlefaaPFx16
import Derived.Test.YtgeheedfmdlefaaPFx20
namespace Go.Proofs.Ytgeheedfmdlefaa.PF
open Go.RowKit Go.Proofs.YtgeheedfmdlefaaW.PrintWords Go.Proofs.YtgeheedfmdlefaaW.PrintLast Go.Proofs.YtgeheedfmdlefaaW.PrintMore
attribute [local go_sem] max2_int min2_int max_two min_two max_three min_three max_four min_four   -- for this text's walks alone
set_option linter.unusedVariables false
set_option linter.unusedSimpArgs false

attribute [local go_sem high] eqA24
/-! ### tocsinlaw06_FrameControls: function 3 -/
def tocsinlaw06_FrameControls.f (k : Nat) (a0_0 : Int) (a0_1 : Int) (a0_2 : Int) (a0_3 : Int) (a0_4 : Int) : Option (Bool) := (tocsinlaw06_fixed.f k).bind fun t321 => (if t321 = true then ((frame_Control.f k a0_0 a0_1 a0_2 a0_3 a0_4).bind fun bt322 => ((tocsinref06_RightControl.f a0_0 a0_1 a0_2 a0_3 a0_4).bind fun t326 => (if t326 = true then ((frame_ReadControl.f k bt322.1).bind fun bt327 => (if bt322.2 = 0 then ((tocsinref06_Control.f k a0_0 a0_1 a0_2 a0_3 a0_4).bind fun t334 => (if (strOfNums bt322.1).toList = (strOfNums t334).toList then (if bt327.2.2.2.2.2 = 0 then (if (bt327.1 == a0_0 && (bt327.2.1 == a0_1 && (bt327.2.2.1 == a0_2 && (bt327.2.2.2.1 == a0_3 && (bt327.2.2.2.2.1 == a0_4))))) = true then ((frame_Which.f k bt322.1).bind fun t337 => (some (t337 == 1))) else (none)) else (none)) else (none))) else (none))) else (if bt322.2 = 1 then (some ((bt322.1.length : Int) == 0)) else (none))))) else (none))
theorem tocsinlaw06_FrameControls.mono : ∀ a0 a1 a2 a3 a4 k, LeO (tocsinlaw06_FrameControls.f k a0 a1 a2 a3 a4) (tocsinlaw06_FrameControls.f (k + 1) a0 a1 a2 a3 a4) := by
  intro a0 a1 a2 a3 a4 k
  unfold tocsinlaw06_FrameControls.f
  repeat' first
      | (with_reducible exact frame_Control.mono _ _ _ _ _ _)
      | (with_reducible exact frame_ReadControl.mono _ _)
      | (with_reducible exact frame_Which.mono _ _)
      | (with_reducible exact tocsinlaw06_fixed.mono _)
      | (with_reducible exact tocsinref06_Control.mono _ _ _ _ _ _)
      | (with_reducible exact LeO.refl _)
      | (with_reducible exact LeO.none _)
      | (with_reducible refine LeO.ite ?_ ?_)
      | (with_reducible refine LeO.bind ?_ (fun _ => ?_))
      | exact frame_Control.mono _ _ _ _ _ _
      | exact frame_ReadControl.mono _ _
      | exact frame_Which.mono _ _
      | exact tocsinlaw06_fixed.mono _
      | exact tocsinref06_Control.mono _ _ _ _ _ _
      | exact LeO.none _
      | refine LeO.ite ?_ ?_
      | refine LeO.bind ?_ (fun _ => ?_)
def tocsinlaw06_FrameControls.T7 : Bool × List (List Nat × List Nat) := (true, [([], []), ([0], [0]), ([1], [1]), ([2], [2]), ([3, 2], [2, 3]), ([2], [2]), ([5, 2, 2], [2, 5]), ([6, 2], [2, 6]), ([4, 7, 2], [2, 4, 7]), ([2, 8], [2, 8]), ([9, 6], [9]), ([10], [10]), ([11, 10], [10, 11]), ([10, 12], [10, 12]), ([13, 10], [13]), ([14], [14]), ([14], [14]), ([15, 16, 14], [14, 15, 16]), ([14, 17], [14, 17]), ([18, 14], [18]), ([19], [19]), ([20, 19, 19], [19, 20]), ([21, 19], [19, 21]), ([19, 22], [19, 22]), ([23, 21, 0, 1, 2, 3, 4, 5, 6, 7, 8, 9, 10, 11, 12, 13, 14, 15, 16, 17, 18, 19, 20, 21, 22, 23], [23])])
def tocsinlaw06_FrameControls.B7 : List Nat := [0, 1, 3, 7, 15, 7, 39, 103, 255, 511, 1023, 2047, 4095, 8191, 16383, 32767, 32767, 131071, 262143, 524287, 1048575, 2097151, 4194303, 8388607, 16777215]
theorem tocsinlaw06_FrameControls.tab7 : rtab .any (opsOf Try.f3 7) = tocsinlaw06_FrameControls.T7 := by kernel_rfl
theorem tocsinlaw06_FrameControls.bits7 : waitsOk tocsinlaw06_FrameControls.T7.2 tocsinlaw06_FrameControls.B7 = true := by kernel_rfl
set_option maxHeartbeats 8000000 in
set_option maxRecDepth 100000 in
theorem tocsinlaw06_FrameControls.calls (k : Nat) (a0_0 : Int) (a0_1 : Int) (a0_2 : Int) (a0_3 : Int) (a0_4 : Int) (r : Bool) (w : World) (h : tocsinlaw06_FrameControls.f k a0_0 a0_1 a0_2 a0_3 a0_4 = some r) :
    Calls Try.prog 3 #[.agg #[.int .i64 a0_0, .int .i64 a0_1, .int .i64 a0_2, .int .u32 a0_3, .int .i64 a0_4]] w fun e w' => e = .returned (.bool r) ∧ Below w.heap.size w w' := by
  have hu24 := Try.underlying24
  have HB := Aside0.mk (Below.refl w.heap.size w)
  have H : ((tocsinlaw06_fixed.f k).bind fun t321 => (if t321 = true then ((frame_Control.f k a0_0 a0_1 a0_2 a0_3 a0_4).bind fun bt322 => ((tocsinref06_RightControl.f a0_0 a0_1 a0_2 a0_3 a0_4).bind fun t326 => (if t326 = true then ((frame_ReadControl.f k bt322.1).bind fun bt327 => (if bt322.2 = 0 then ((tocsinref06_Control.f k a0_0 a0_1 a0_2 a0_3 a0_4).bind fun t334 => (if (strOfNums bt322.1).toList = (strOfNums t334).toList then (if bt327.2.2.2.2.2 = 0 then (if (bt327.1 == a0_0 && (bt327.2.1 == a0_1 && (bt327.2.2.1 == a0_2 && (bt327.2.2.2.1 == a0_3 && (bt327.2.2.2.2.1 == a0_4))))) = true then ((frame_Which.f k bt322.1).bind fun t337 => (some (t337 == 1))) else (none)) else (none)) else (none))) else (none))) else (if bt322.2 = 1 then (some ((bt322.1.length : Int) == 0)) else (none))))) else (none))) = some r := h
  clear h
  replace H := Option.bind_eq_some_iff.mp H
  obtain ⟨t321, A20, H⟩ := H
  replace H : (if t321 = true then ((frame_Control.f k a0_0 a0_1 a0_2 a0_3 a0_4).bind fun bt322 => ((tocsinref06_RightControl.f a0_0 a0_1 a0_2 a0_3 a0_4).bind fun t326 => (if t326 = true then ((frame_ReadControl.f k bt322.1).bind fun bt327 => (if bt322.2 = 0 then ((tocsinref06_Control.f k a0_0 a0_1 a0_2 a0_3 a0_4).bind fun t334 => (if (strOfNums bt322.1).toList = (strOfNums t334).toList then (if bt327.2.2.2.2.2 = 0 then (if (bt327.1 == a0_0 && (bt327.2.1 == a0_1 && (bt327.2.2.1 == a0_2 && (bt327.2.2.2.1 == a0_3 && (bt327.2.2.2.2.1 == a0_4))))) = true then ((frame_Which.f k bt322.1).bind fun t337 => (some (t337 == 1))) else (none)) else (none)) else (none))) else (none))) else (if bt322.2 = 1 then (some ((bt322.1.length : Int) == 0)) else (none))))) else (none)) = some r := H
  have A2 := Aside0.mk A20
  clear A20
  by_cases c3 : t321 = true
  · subst c3
    have H1 : ((frame_Control.f k a0_0 a0_1 a0_2 a0_3 a0_4).bind fun bt322 => ((tocsinref06_RightControl.f a0_0 a0_1 a0_2 a0_3 a0_4).bind fun t326 => (if t326 = true then ((frame_ReadControl.f k bt322.1).bind fun bt327 => (if bt322.2 = 0 then ((tocsinref06_Control.f k a0_0 a0_1 a0_2 a0_3 a0_4).bind fun t334 => (if (strOfNums bt322.1).toList = (strOfNums t334).toList then (if bt327.2.2.2.2.2 = 0 then (if (bt327.1 == a0_0 && (bt327.2.1 == a0_1 && (bt327.2.2.1 == a0_2 && (bt327.2.2.2.1 == a0_3 && (bt327.2.2.2.2.1 == a0_4))))) = true then ((frame_Which.f k bt322.1).bind fun t337 => (some (t337 == 1))) else (none)) else (none)) else (none))) else (none))) else (if bt322.2 = 1 then (some ((bt322.1.length : Int) == 0)) else (none))))) = some r := by rw [if_pos rfl] at H; exact H
    clear H
    have H := H1
    clear H1
    replace H := Option.bind_eq_some_iff.mp H
    obtain ⟨⟨t322, t325⟩, A40, H⟩ := H
    replace H : ((tocsinref06_RightControl.f a0_0 a0_1 a0_2 a0_3 a0_4).bind fun t326 => (if t326 = true then ((frame_ReadControl.f k t322).bind fun bt327 => (if t325 = 0 then ((tocsinref06_Control.f k a0_0 a0_1 a0_2 a0_3 a0_4).bind fun t334 => (if (strOfNums t322).toList = (strOfNums t334).toList then (if bt327.2.2.2.2.2 = 0 then (if (bt327.1 == a0_0 && (bt327.2.1 == a0_1 && (bt327.2.2.1 == a0_2 && (bt327.2.2.2.1 == a0_3 && (bt327.2.2.2.2.1 == a0_4))))) = true then ((frame_Which.f k t322).bind fun t337 => (some (t337 == 1))) else (none)) else (none)) else (none))) else (none))) else (if t325 = 1 then (some ((t322.length : Int) == 0)) else (none)))) = some r := H
    have A4 := Aside0.mk A40
    clear A40
    replace H := Option.bind_eq_some_iff.mp H
    obtain ⟨t326, A50, H⟩ := H
    replace H : (if t326 = true then ((frame_ReadControl.f k t322).bind fun bt327 => (if t325 = 0 then ((tocsinref06_Control.f k a0_0 a0_1 a0_2 a0_3 a0_4).bind fun t334 => (if (strOfNums t322).toList = (strOfNums t334).toList then (if bt327.2.2.2.2.2 = 0 then (if (bt327.1 == a0_0 && (bt327.2.1 == a0_1 && (bt327.2.2.1 == a0_2 && (bt327.2.2.2.1 == a0_3 && (bt327.2.2.2.2.1 == a0_4))))) = true then ((frame_Which.f k t322).bind fun t337 => (some (t337 == 1))) else (none)) else (none)) else (none))) else (none))) else (if t325 = 1 then (some ((t322.length : Int) == 0)) else (none))) = some r := H
    have A5 := Aside0.mk A50
    clear A50
    by_cases c6 : t326 = true
    · subst c6
      have H1 : ((frame_ReadControl.f k t322).bind fun bt327 => (if t325 = 0 then ((tocsinref06_Control.f k a0_0 a0_1 a0_2 a0_3 a0_4).bind fun t334 => (if (strOfNums t322).toList = (strOfNums t334).toList then (if bt327.2.2.2.2.2 = 0 then (if (bt327.1 == a0_0 && (bt327.2.1 == a0_1 && (bt327.2.2.1 == a0_2 && (bt327.2.2.2.1 == a0_3 && (bt327.2.2.2.2.1 == a0_4))))) = true then ((frame_Which.f k t322).bind fun t337 => (some (t337 == 1))) else (none)) else (none)) else (none))) else (none))) = some r := by rw [if_pos rfl] at H; exact H
      clear H
      have H := H1
      clear H1
      replace H := Option.bind_eq_some_iff.mp H
      obtain ⟨⟨t327, t328, t329, t330, t331, t332⟩, A70, H⟩ := H
      replace H : (if t325 = 0 then ((tocsinref06_Control.f k a0_0 a0_1 a0_2 a0_3 a0_4).bind fun t334 => (if (strOfNums t322).toList = (strOfNums t334).toList then (if t332 = 0 then (if (t327 == a0_0 && (t328 == a0_1 && (t329 == a0_2 && (t330 == a0_3 && (t331 == a0_4))))) = true then ((frame_Which.f k t322).bind fun t337 => (some (t337 == 1))) else (none)) else (none)) else (none))) else (none)) = some r := H
      have A7 := Aside0.mk A70
      clear A70
      by_cases c8 : t325 = 0
      · rw [if_pos c8] at H
        have c8b0 : (t325 == 0) = true := beq_iff_eq.mpr c8
        have c8b1 : (t325 != 0) = false := bne_eq_false_iff_eq.mpr c8
        clear c8
        replace H := Option.bind_eq_some_iff.mp H
        obtain ⟨t334, A90, H⟩ := H
        replace H : (if (strOfNums t322).toList = (strOfNums t334).toList then (if t332 = 0 then (if (t327 == a0_0 && (t328 == a0_1 && (t329 == a0_2 && (t330 == a0_3 && (t331 == a0_4))))) = true then ((frame_Which.f k t322).bind fun t337 => (some (t337 == 1))) else (none)) else (none)) else (none)) = some r := H
        have A9 := Aside0.mk A90
        clear A90
        by_cases c10 : (strOfNums t322).toList = (strOfNums t334).toList
        · rw [if_pos c10] at H
          have c10b0 : ((strOfNums t322).toList == (strOfNums t334).toList) = true := beq_iff_eq.mpr c10
          have c10b1 : ((strOfNums t322).toList != (strOfNums t334).toList) = false := bne_eq_false_iff_eq.mpr c10
          clear c10
          by_cases c11 : t332 = 0
          · rw [if_pos c11] at H
            have c11b0 : (t332 == 0) = true := beq_iff_eq.mpr c11
            have c11b1 : (t332 != 0) = false := bne_eq_false_iff_eq.mpr c11
            clear c11
            by_cases c12 : (t327 == a0_0 && (t328 == a0_1 && (t329 == a0_2 && (t330 == a0_3 && (t331 == a0_4))))) = true
            · rw [if_pos c12] at H
              have c12b0 : (t327 == a0_0 && (t328 == a0_1 && (t329 == a0_2 && (t330 == a0_3 && (t331 == a0_4))))) = true := c12
              (try (have c12b1 : decide (t327 = a0_0 && (t328 == a0_1 && (t329 == a0_2 && (t330 == a0_3 && (t331 == a0_4))))) = true := by simpa using c12))
              (try (have c12b2 : (t327 == a0_0 && (t328 == a0_1 && (t329 == a0_2 && (t330 == a0_3 && (t331 == a0_4))))) = true := by simpa using c12))
              clear c12
              replace H := Option.bind_eq_some_iff.mp H
              obtain ⟨t337, A130, H⟩ := H
              replace H : (some (t337 == 1)) = some r := H
              have A13 := Aside0.mk A130
              clear A130
              obtain rfl := Option.some.inj H
              go_enter Try.func3, Try.ntmps3
              try go_wp2_with (first | ((with_reducible refine gate_dst (N := 1) rfl ?_); (try (refine gate_guard (by rfl) ?_; dsimp only)); refine box_event ?hg (N := 1) ?hd (cs := #[.int .i64 a0_0, .int .i64 a0_1, .int .i64 a0_2, .int .u32 a0_3, .int .i64 a0_4]) (t := 24) ?hr ?_; (case hd => rfl); (case hg => rfl); (case hr => first | (go_simp; done) | (go_simp; rfl)); intro gb320 hg w14 hbox hb; have n0_ := Aside0.mk (below_step (by repeat (first | (with_reducible first | exact HB.out | apply below_alloc | apply pw_below_drewN | apply below_drew1) | exact HB.out)) hb); have n1_ := Aside0.mk (hbox); have n2_ := Aside0.mk ((by rw [hg]; exact (below_size (by repeat (first | (with_reducible first | exact HB.out | apply below_alloc | apply pw_below_drewN | apply below_drew1) | exact HB.out))) : w.heap.size ≤ gb320)); have n3_ := Aside0.mk ((by rw [hg]; exact (below_size (by repeat (first | (with_reducible first | exact HB.out | apply below_alloc | apply pw_below_drewN | apply below_drew1) | exact HB.out))) : w.heap.size ≤ gb320)); clear HB; have HB := n0_; have BK320 := n1_; have GW320 := n2_; have GE320 := n3_; clear n0_ n1_ n2_ n3_; clear hb hbox hg) | ((with_reducible refine gate_callee (f := 11) rfl ?_); refine goesL_ (some 7) rfl rfl Try.func11 (by kernel_rfl) rfl #[] rfl (by (try simp only [List.map_toArray, List.map_cons, List.map_nil]); first | done | rfl | (simp only [List.length_drop, List.length_take]; rfl)) ?_; (with_reducible refine (tocsinlaw06_fixed.calls k  true _ A2.out).mono ?_); rintro e w15 ⟨rfl, hb⟩; refine ⟨_, rfl, ?_⟩; have n0_ := Aside0.mk (blk_below (g := gb320) (o := .cells #[.int .i64 a0_0, .int .i64 a0_1, .int .i64 a0_2, .int .u32 a0_3, .int .i64 a0_4] 24 (0, 0)) (by (with_reducible repeat (first | refine blk_drewN ?_ _ | refine blk_drew ?_ | refine blk_alloc ?_ _)); exact BK320.out) hb); have n1_ := Aside0.mk (below_step (by repeat (first | (with_reducible first | exact HB.out | apply below_alloc | apply pw_below_drewN | apply below_drew1 | refine below_set ?_ GE320.out) | exact HB.out)) hb); clear BK320; clear HB; have BK320 := n0_; have HB := n1_; clear n0_ n1_; (try clear hb); (try clear hb2); (try clear hk); (try clear hi); have hcz16_0 : World.cell? _ ⟨gb320, 0, none⟩ = some (.int .i64 a0_0) := (blk_cell BK320.out 0).trans rfl; have hcz16_1 : World.cell? _ ⟨gb320, 1, none⟩ = some (.int .i64 a0_1) := (blk_cell BK320.out 1).trans rfl; have hcz16_2 : World.cell? _ ⟨gb320, 2, none⟩ = some (.int .i64 a0_2) := (blk_cell BK320.out 2).trans rfl; have hcz16_3 : World.cell? _ ⟨gb320, 3, none⟩ = some (.int .u32 a0_3) := (blk_cell BK320.out 3).trans rfl; have hcz16_4 : World.cell? _ ⟨gb320, 4, none⟩ = some (.int .i64 a0_4) := (blk_cell BK320.out 4).trans rfl; have hfz16_0 := blk_frozen BK320.out 0; have hfz16_1 := blk_frozen BK320.out 1; have hfz16_2 := blk_frozen BK320.out 2; have hfz16_3 := blk_frozen BK320.out 3; have hfz16_4 := blk_frozen BK320.out 4) | ((with_reducible refine gate_callee (f := 12) rfl ?_); refine goesL_ (some 11) rfl rfl Try.func12 (by kernel_rfl) rfl #[.agg #[.int .i64 a0_0, .int .i64 a0_1, .int .i64 a0_2, .int .u32 a0_3, .int .i64 a0_4]] rfl (by (try simp only [List.map_toArray, List.map_cons, List.map_nil]); first | done | rfl | (simp only [List.length_drop, List.length_take]; rfl)) ?_; (with_reducible refine (frame_Control.calls k a0_0 a0_1 a0_2 a0_3 a0_4 t322 t325 _ A4.out).mono ?_); rintro e w17 ⟨v323, rfl, ho0, hb⟩; refine ⟨_, rfl, ?_⟩; have n0_ := Aside0.mk (Kd.R_lower ho0 (below_size (by repeat (first | (with_reducible first | exact HB.out | apply below_alloc | apply pw_below_drewN | apply below_drew1 | refine below_set ?_ GE320.out) | exact HB.out)))); have n1_ := Aside0.mk (blk_below (g := gb320) (o := .cells #[.int .i64 a0_0, .int .i64 a0_1, .int .i64 a0_2, .int .u32 a0_3, .int .i64 a0_4] 24 (0, 0)) (by (with_reducible repeat (first | refine blk_drewN ?_ _ | refine blk_drew ?_ | refine blk_alloc ?_ _)); exact BK320.out) hb); have n2_ := Aside0.mk (below_step (by repeat (first | (with_reducible first | exact HB.out | apply below_alloc | apply pw_below_drewN | apply below_drew1 | refine below_set ?_ GE320.out) | exact HB.out)) hb); clear BK320; clear HB; have HO324 := n0_; have BK320 := n1_; have HB := n2_; clear n0_ n1_ n2_; (try clear hb); (try clear hb2); (try clear hk); (try clear hi); (try clear ho0); have hcz18_0 : World.cell? _ ⟨gb320, 0, none⟩ = some (.int .i64 a0_0) := (blk_cell BK320.out 0).trans rfl; have hcz18_1 : World.cell? _ ⟨gb320, 1, none⟩ = some (.int .i64 a0_1) := (blk_cell BK320.out 1).trans rfl; have hcz18_2 : World.cell? _ ⟨gb320, 2, none⟩ = some (.int .i64 a0_2) := (blk_cell BK320.out 2).trans rfl; have hcz18_3 : World.cell? _ ⟨gb320, 3, none⟩ = some (.int .u32 a0_3) := (blk_cell BK320.out 3).trans rfl; have hcz18_4 : World.cell? _ ⟨gb320, 4, none⟩ = some (.int .i64 a0_4) := (blk_cell BK320.out 4).trans rfl; have hfz18_0 := blk_frozen BK320.out 0; have hfz18_1 := blk_frozen BK320.out 1; have hfz18_2 := blk_frozen BK320.out 2; have hfz18_3 := blk_frozen BK320.out 3; have hfz18_4 := blk_frozen BK320.out 4) | ((with_reducible refine gate_callee (f := 13) rfl ?_); refine goesL_ (some 15) rfl rfl Try.func13 (by kernel_rfl) rfl #[.agg #[.int .i64 a0_0, .int .i64 a0_1, .int .i64 a0_2, .int .u32 a0_3, .int .i64 a0_4]] rfl (by (try simp only [List.map_toArray, List.map_cons, List.map_nil]); first | done | rfl | (simp only [List.length_drop, List.length_take]; rfl)) ?_; (with_reducible refine (tocsinref06_RightControl.calls a0_0 a0_1 a0_2 a0_3 a0_4 true _ A5.out).mono ?_); rintro e w19 ⟨rfl, hb⟩; refine ⟨_, rfl, ?_⟩; have n0_ := Aside0.mk (Kd.R_below (by (with_reducible repeat (first | apply Kd.R_alloc | apply Kd.R_drewN | apply Kd.R_drew)); exact HO324.out) hb); have n1_ := Aside0.mk (blk_below (g := gb320) (o := .cells #[.int .i64 a0_0, .int .i64 a0_1, .int .i64 a0_2, .int .u32 a0_3, .int .i64 a0_4] 24 (0, 0)) (by (with_reducible repeat (first | refine blk_drewN ?_ _ | refine blk_drew ?_ | refine blk_alloc ?_ _)); exact BK320.out) hb); have n2_ := Aside0.mk (below_step (by repeat (first | (with_reducible first | exact HB.out | apply below_alloc | apply pw_below_drewN | apply below_drew1 | refine below_set ?_ GE320.out) | exact HB.out)) hb); clear HO324; clear BK320; clear HB; have HO324 := n0_; have BK320 := n1_; have HB := n2_; clear n0_ n1_ n2_; (try clear hb); (try clear hb2); (try clear hk); (try clear hi); obtain ⟨Ao20, co20, eo20⟩ := Kd.R_slice HO324.out; subst eo20) | ((with_reducible refine gate_callee (f := 14) rfl ?_); refine goesL_ (some 26) rfl rfl Try.func14 (by kernel_rfl) rfl #[.slice Ao20 t322.length co20] rfl (by (try simp only [List.map_toArray, List.map_cons, List.map_nil]); first | done | rfl | (simp only [List.length_drop, List.length_take]; rfl)) ?_; (with_reducible refine (frame_ReadControl.calls k _ _ t322 t327 t328 t329 t330 t331 t332 _ ?side1 ?side2 A7.out).mono ?_); (case side1 => repeat (first | exact (Kd.R_reads' HO324.out).2.2 | (with_reducible refine Kd.C_alloc ?_ _) | (with_reducible refine Kd.C_drewN ?_ _) | (with_reducible refine Kd.C_drew ?_))); (case side2 => exact (Kd.R_reads' HO324.out).2.1); rintro e w21 ⟨rfl, hb⟩; refine ⟨_, rfl, ?_⟩; have n0_ := Aside0.mk (Kd.R_below (by (with_reducible repeat (first | apply Kd.R_alloc | apply Kd.R_drewN | apply Kd.R_drew)); exact HO324.out) hb); have n1_ := Aside0.mk (blk_below (g := gb320) (o := .cells #[.int .i64 a0_0, .int .i64 a0_1, .int .i64 a0_2, .int .u32 a0_3, .int .i64 a0_4] 24 (0, 0)) (by (with_reducible repeat (first | refine blk_drewN ?_ _ | refine blk_drew ?_ | refine blk_alloc ?_ _)); exact BK320.out) hb); have n2_ := Aside0.mk (below_step (by repeat (first | (with_reducible first | exact HB.out | apply below_alloc | apply pw_below_drewN | apply below_drew1 | refine below_set ?_ GE320.out) | exact HB.out)) hb); clear HO324; clear BK320; clear HB; have HO324 := n0_; have BK320 := n1_; have HB := n2_; clear n0_ n1_ n2_; (try clear hb); (try clear hb2); (try clear hk); (try clear hi)) | ((with_reducible refine gate_dst (N := 5) rfl ?_); (try (refine gate_guard (by rfl) ?_; dsimp only)); refine box_event ?hg (N := 5) ?hd (cs := #[.int .i64 0, .int .i64 0, .int .i64 0, .int .u32 0, .int .i64 0]) (t := 24) ?hr ?_; (case hd => rfl); (case hg => rfl); (case hr => first | (go_simp; done) | (go_simp; rfl)); intro gb333 hg w22 hbox hb; have n0_ := Aside0.mk (Kd.R_below (by (with_reducible repeat (first | apply Kd.R_alloc | apply Kd.R_drewN | apply Kd.R_drew)); exact HO324.out) hb); have n1_ := Aside0.mk (blk_below (g := gb320) (o := .cells #[.int .i64 a0_0, .int .i64 a0_1, .int .i64 a0_2, .int .u32 a0_3, .int .i64 a0_4] 24 (0, 0)) (by (with_reducible repeat (first | refine blk_drewN ?_ _ | refine blk_drew ?_ | refine blk_alloc ?_ _)); exact BK320.out) hb); have n2_ := Aside0.mk (below_step (by repeat (first | (with_reducible first | exact HB.out | apply below_alloc | apply pw_below_drewN | apply below_drew1 | refine below_set ?_ GE320.out) | exact HB.out)) hb); have n3_ := Aside0.mk (hbox); have n4_ := Aside0.mk ((by rw [hg]; exact (below_size (by repeat (first | (with_reducible first | exact HB.out | apply below_alloc | apply pw_below_drewN | apply below_drew1 | refine below_set ?_ GE320.out) | exact HB.out))) : w.heap.size ≤ gb333)); have n5_ := Aside0.mk ((by rw [hg]; exact (below_size (by repeat (first | (with_reducible first | exact HB.out | apply below_alloc | apply pw_below_drewN | apply below_drew1 | refine below_set ?_ GE320.out) | exact HB.out))) : w.heap.size ≤ gb333)); have n6_ := Aside0.mk ((by rw [hg]; exact Nat.ne_of_lt (blk_lt (g := gb320) (o := .cells #[.int .i64 a0_0, .int .i64 a0_1, .int .i64 a0_2, .int .u32 a0_3, .int .i64 a0_4] 24 (0, 0)) (by (with_reducible repeat (first | refine blk_drewN ?_ _ | refine blk_drew ?_ | refine blk_alloc ?_ _)); exact BK320.out)) : gb320 ≠ gb333)); have n7_ := Aside0.mk ((by rw [hg]; exact Nat.ne_of_gt (blk_lt (g := gb320) (o := .cells #[.int .i64 a0_0, .int .i64 a0_1, .int .i64 a0_2, .int .u32 a0_3, .int .i64 a0_4] 24 (0, 0)) (by (with_reducible repeat (first | refine blk_drewN ?_ _ | refine blk_drew ?_ | refine blk_alloc ?_ _)); exact BK320.out)) : gb333 ≠ gb320)); clear HO324; clear BK320; clear HB; have HO324 := n0_; have BK320 := n1_; have HB := n2_; have BK333 := n3_; have GW333 := n4_; have GE333 := n5_; have NB320_333 := n6_; have NB333_320 := n7_; clear n0_ n1_ n2_ n3_ n4_ n5_ n6_ n7_; clear hb hbox hg; have hnb23 := NB333_320.out; have hnc23 := NB320_333.out; have hcz24_0 : World.cell? _ ⟨gb333, 0, none⟩ = some (.int .i64 0) := (blk_cell BK333.out 0).trans rfl; have hcz24_1 : World.cell? _ ⟨gb333, 1, none⟩ = some (.int .i64 0) := (blk_cell BK333.out 1).trans rfl; have hcz24_2 : World.cell? _ ⟨gb333, 2, none⟩ = some (.int .i64 0) := (blk_cell BK333.out 2).trans rfl; have hcz24_3 : World.cell? _ ⟨gb333, 3, none⟩ = some (.int .u32 0) := (blk_cell BK333.out 3).trans rfl; have hcz24_4 : World.cell? _ ⟨gb333, 4, none⟩ = some (.int .i64 0) := (blk_cell BK333.out 4).trans rfl; have hfz24_0 := blk_frozen BK333.out 0; have hfz24_1 := blk_frozen BK333.out 1; have hfz24_2 := blk_frozen BK333.out 2; have hfz24_3 := blk_frozen BK333.out 3; have hfz24_4 := blk_frozen BK333.out 4))
              have n0_ : Aside0 (Kd.R (Kd.int .u8) 5 (((((w22.setCell ⟨gb333, 0, none⟩ (.int .i64 t327)).setCell ⟨gb333, 1, none⟩ (.int .i64 t328)).setCell ⟨gb333, 2, none⟩ (.int .i64 t329)).setCell ⟨gb333, 3, none⟩ (.int .u32 t330)).setCell ⟨gb333, 4, none⟩ (.int .i64 t331)) w.heap.size (fun _ => True) (.slice Ao20 t322.length co20) t322) := ⟨by (with_reducible repeat (first | apply Kd.R_alloc | apply Kd.R_drewN | apply Kd.R_drew)); exact Kd.R_mono (Kd.R_far (p := ⟨gb333, 4, none⟩) (Kd.R_far (p := ⟨gb333, 3, none⟩) (Kd.R_far (p := ⟨gb333, 2, none⟩) (Kd.R_far (p := ⟨gb333, 1, none⟩) (Kd.R_far (p := ⟨gb333, 0, none⟩) (Kd.R_types HO324.out BK333.out (by decide)) (fun _ hk => hk.2) (.int .i64 t327)) (fun _ hk => hk.2) (.int .i64 t328)) (fun _ hk => hk.2) (.int .i64 t329)) (fun _ hk => hk.2) (.int .u32 t330)) (fun _ hk => hk.2) (.int .i64 t331)) (fun _ hk => trivial)⟩
              have n1_ : Aside0 ((((((w22.setCell ⟨gb333, 0, none⟩ (.int .i64 t327)).setCell ⟨gb333, 1, none⟩ (.int .i64 t328)).setCell ⟨gb333, 2, none⟩ (.int .i64 t329)).setCell ⟨gb333, 3, none⟩ (.int .u32 t330)).setCell ⟨gb333, 4, none⟩ (.int .i64 t331)).heap[gb320]? = some (.cells #[.int .i64 a0_0, .int .i64 a0_1, .int .i64 a0_2, .int .u32 a0_3, .int .i64 a0_4] 24 (0, 0))) := ⟨by (with_reducible repeat (first | refine blk_drewN ?_ _ | refine blk_drew ?_ | refine blk_alloc ?_ _)); refine blk_far ?_ NB320_333.out _; (with_reducible repeat (first | refine blk_drewN ?_ _ | refine blk_drew ?_ | refine blk_alloc ?_ _)); refine blk_far ?_ NB320_333.out _; (with_reducible repeat (first | refine blk_drewN ?_ _ | refine blk_drew ?_ | refine blk_alloc ?_ _)); refine blk_far ?_ NB320_333.out _; (with_reducible repeat (first | refine blk_drewN ?_ _ | refine blk_drew ?_ | refine blk_alloc ?_ _)); refine blk_far ?_ NB320_333.out _; (with_reducible repeat (first | refine blk_drewN ?_ _ | refine blk_drew ?_ | refine blk_alloc ?_ _)); refine blk_far ?_ NB320_333.out _; (with_reducible repeat (first | refine blk_drewN ?_ _ | refine blk_drew ?_ | refine blk_alloc ?_ _)); exact BK320.out⟩
              have n2_ : Aside0 ((((((w22.setCell ⟨gb333, 0, none⟩ (.int .i64 t327)).setCell ⟨gb333, 1, none⟩ (.int .i64 t328)).setCell ⟨gb333, 2, none⟩ (.int .i64 t329)).setCell ⟨gb333, 3, none⟩ (.int .u32 t330)).setCell ⟨gb333, 4, none⟩ (.int .i64 t331)).heap[gb333]? = some (.cells #[.int .i64 t327, .int .i64 t328, .int .i64 t329, .int .u32 t330, .int .i64 t331] 24 (0, 0))) := ⟨by (with_reducible repeat (first | refine blk_drewN ?_ _ | refine blk_drew ?_ | refine blk_alloc ?_ _)); refine blk_put (cs := #[.int .i64 t327, .int .i64 t328, .int .i64 t329, .int .u32 t330, .int .i64 0]) ?_ 4 _ rfl; (with_reducible repeat (first | refine blk_drewN ?_ _ | refine blk_drew ?_ | refine blk_alloc ?_ _)); refine blk_put (cs := #[.int .i64 t327, .int .i64 t328, .int .i64 t329, .int .u32 0, .int .i64 0]) ?_ 3 _ rfl; (with_reducible repeat (first | refine blk_drewN ?_ _ | refine blk_drew ?_ | refine blk_alloc ?_ _)); refine blk_put (cs := #[.int .i64 t327, .int .i64 t328, .int .i64 0, .int .u32 0, .int .i64 0]) ?_ 2 _ rfl; (with_reducible repeat (first | refine blk_drewN ?_ _ | refine blk_drew ?_ | refine blk_alloc ?_ _)); refine blk_put (cs := #[.int .i64 t327, .int .i64 0, .int .i64 0, .int .u32 0, .int .i64 0]) ?_ 1 _ rfl; (with_reducible repeat (first | refine blk_drewN ?_ _ | refine blk_drew ?_ | refine blk_alloc ?_ _)); refine blk_put (cs := #[.int .i64 0, .int .i64 0, .int .i64 0, .int .u32 0, .int .i64 0]) ?_ 0 _ rfl; (with_reducible repeat (first | refine blk_drewN ?_ _ | refine blk_drew ?_ | refine blk_alloc ?_ _)); exact BK333.out⟩
              have n3_ : Aside0 (Below w.heap.size w (((((w22.setCell ⟨gb333, 0, none⟩ (.int .i64 t327)).setCell ⟨gb333, 1, none⟩ (.int .i64 t328)).setCell ⟨gb333, 2, none⟩ (.int .i64 t329)).setCell ⟨gb333, 3, none⟩ (.int .u32 t330)).setCell ⟨gb333, 4, none⟩ (.int .i64 t331))) := ⟨by repeat (first | (with_reducible first | exact HB.out | apply below_alloc | apply pw_below_drewN | apply below_drew1 | refine below_set ?_ GE320.out | refine below_set ?_ GE333.out) | exact HB.out)⟩
              (try clear HO324)
              (try clear BK320)
              (try clear BK333)
              (try clear HB)
              generalize (((((w22.setCell ⟨gb333, 0, none⟩ (.int .i64 t327)).setCell ⟨gb333, 1, none⟩ (.int .i64 t328)).setCell ⟨gb333, 2, none⟩ (.int .i64 t329)).setCell ⟨gb333, 3, none⟩ (.int .u32 t330)).setCell ⟨gb333, 4, none⟩ (.int .i64 t331)) = w25 at n0_ n1_ n2_ n3_ ⊢
              have HO324 := n0_
              have BK320 := n1_
              have BK333 := n2_
              have HB := n3_
              clear n0_ n1_ n2_ n3_
              have n0_ := Aside0.mk (Kd.R_drew HO324.out)
              have n1_ := Aside0.mk (blk_drew BK320.out)
              have n2_ := Aside0.mk (blk_drew BK333.out)
              have n3_ := Aside0.mk (below_drew1 HB.out)
              clear HO324
              clear BK320
              clear BK333
              clear HB
              have HO324 := n0_
              have BK320 := n1_
              have BK333 := n2_
              have HB := n3_
              clear n0_ n1_ n2_ n3_
              refine start_ (n := 25) (S := fun w' => w'.cell? ⟨gb320, 0, none⟩ = some (.int .i64 a0_0) ∧ w'.cell? ⟨gb320, 1, none⟩ = some (.int .i64 a0_1) ∧ w'.cell? ⟨gb320, 2, none⟩ = some (.int .i64 a0_2) ∧ w'.cell? ⟨gb320, 3, none⟩ = some (.int .u32 a0_3) ∧ w'.cell? ⟨gb320, 4, none⟩ = some (.int .i64 a0_4) ∧ w'.cell? ⟨gb333, 0, none⟩ = some (.int .i64 t327) ∧ w'.cell? ⟨gb333, 1, none⟩ = some (.int .i64 t328) ∧ w'.cell? ⟨gb333, 2, none⟩ = some (.int .i64 t329) ∧ w'.cell? ⟨gb333, 3, none⟩ = some (.int .u32 t330) ∧ w'.cell? ⟨gb333, 4, none⟩ = some (.int .i64 t331) ∧ Sem.run Try.prog (convert 26 9 (.slice Ao20 t322.length co20)) w' = .ok (.string (strOfNums t322)) w') (ds := []) #[false, false, false, false, false, false, false, false, false, false, false, false, false, false, false, false, false, false, false, false, false, false, false, false, false] (by kernel_rfl) rfl rfl ⟨(blk_cell BK320.out 0).trans rfl, (blk_cell BK320.out 1).trans rfl, (blk_cell BK320.out 2).trans rfl, (blk_cell BK320.out 3).trans rfl, (blk_cell BK320.out 4).trans rfl, (blk_cell BK333.out 0).trans rfl, (blk_cell BK333.out 1).trans rfl, (blk_cell BK333.out 2).trans rfl, (blk_cell BK333.out 3).trans rfl, (blk_cell BK333.out 4).trans rfl, (own_string (P := Try.prog) Try.underlying26 Try.underlying5 Try.underlying9 (Kd.own_of_R (by (with_reducible repeat (first | apply Kd.R_alloc | apply Kd.R_drewN | apply Kd.R_drew)); exact HO324.out)))⟩ (fun hHeld => ?_); refine with_tabW tocsinlaw06_FrameControls.tab7 tocsinlaw06_FrameControls.bits7 (fun HT_ HW_ => ?_)
              generalize w25.drew = w26 at HO324 BK320 BK333 HB hHeld ⊢
              refine pure_ (i := 0) (N := some 29) (v := ?_) (a' := ?_) #[true, false, false, false, false, false, false, false, false, false, false, false, false, false, false, false, false, false, false, false, false, false, false, false, false] rfl rfl (any_of HT_.out (by kernel_rfl)) (fun _ _ _ h => h) (Or.inl ⟨by rfl, ?_⟩) ?_ ?_
              rotate_left
              · intro w'
                go_simp
                with_reducible rfl
              rotate_left
              · simp only [Act.put, List.setIfInBounds_toArray, List.set_cons_zero, List.set_cons_succ, i64_w, i32_w]
                rfl
              refine pure_ (i := 1) (N := some 30) (v := ?_) (a' := ?_) #[true, true, false, false, false, false, false, false, false, false, false, false, false, false, false, false, false, false, false, false, false, false, false, false, false] rfl rfl (any_of HT_.out (by kernel_rfl)) (fun _ _ _ h => h) (Or.inl ⟨by rfl, ?_⟩) ?_ ?_
              rotate_left
              · intro w'
                go_simp
                with_reducible rfl
              rotate_left
              · simp only [Act.put, List.setIfInBounds_toArray, List.set_cons_zero, List.set_cons_succ, i64_w, i32_w]
                rfl
              refine pure_ (i := 2) (N := some 31) (v := ?_) (a' := ?_) #[true, true, true, false, false, false, false, false, false, false, false, false, false, false, false, false, false, false, false, false, false, false, false, false, false] rfl rfl (any_of HT_.out (by kernel_rfl)) (fun _ _ _ h => h) (Or.inl ⟨by rfl, ?_⟩) ?_ ?_
              rotate_left
              · intro w'
                go_simp
                with_reducible rfl
              rotate_left
              · simp only [Act.put, List.setIfInBounds_toArray, List.set_cons_zero, List.set_cons_succ, i64_w, i32_w]
                rfl
              refine pure_ (i := 3) (N := some 32) (v := ?_) (a' := ?_) #[true, true, true, true, false, false, false, false, false, false, false, false, false, false, false, false, false, false, false, false, false, false, false, false, false] rfl rfl (any_of HT_.out (by kernel_rfl)) (fun _ _ _ h => h) (Or.inl ⟨by rfl, ?_⟩) ?_ ?_
              rotate_left
              · intro w'
                go_simp
                with_reducible rfl
              rotate_left
              · simp only [Act.put, List.setIfInBounds_toArray, List.set_cons_zero, List.set_cons_succ, i64_w, i32_w]
                rfl
              refine take_ (i := 4) (N := some 33) (v := ?_) (a' := ?_) #[true, true, true, true, true, false, false, false, false, false, false, false, false, false, false, false, false, false, false, false, false, false, false, false, false] rfl rfl (take_ofW HT_.out HW_.out (by kernel_rfl)) (fun _ _ _ h => h) (Or.inl ⟨by rfl, ?_⟩) hHeld ?_ ?_
              rotate_left
              · rintro w' ⟨s0, s1, s2, s3, s4, s5, s6, s7, s8, s9, s10⟩
                go_simp
                with_reducible rfl
              rotate_left
              · simp only [Act.put, List.setIfInBounds_toArray, List.set_cons_zero, List.set_cons_succ, i64_w, i32_w]
                rfl
              refine take_ (i := 5) (N := some 34) (v := ?_) (a' := ?_) #[true, true, true, true, true, true, false, false, false, false, false, false, false, false, false, false, false, false, false, false, false, false, false, false, false] rfl rfl (take_ofW HT_.out HW_.out (by kernel_rfl)) (fun _ _ _ h => h) (Or.inl ⟨by rfl, ?_⟩) hHeld ?_ ?_
              rotate_left
              · rintro w' ⟨s0, s1, s2, s3, s4, s5, s6, s7, s8, s9, s10⟩
                go_simp
                with_reducible rfl
              rotate_left
              · simp only [Act.put, List.setIfInBounds_toArray, List.set_cons_zero, List.set_cons_succ, i64_w, i32_w]
                rfl
              refine one_ (i := 6) (N := some 35) #[true, true, true, true, true, true, true, false, false, false, false, false, false, false, false, false, false, false, false, false, false, false, false, false, false] rfl rfl (one_of HT_.out (by kernel_rfl)) (by decide) (fun K hK => ?_)
              refine goes_ Try.func15 (by kernel_rfl) rfl #[.agg #[.int .i64 a0_0, .int .i64 a0_1, .int .i64 a0_2, .int .u32 a0_3, .int .i64 a0_4]] (by rfl) rfl rfl (by (try simp only [List.map_toArray, List.map_cons, List.map_nil]); first | done | rfl | (simp only [List.length_drop, List.length_take]; rfl)) ?_
              with_reducible refine (tocsinref06_Control.calls k a0_0 a0_1 a0_2 a0_3 a0_4 t334 _ A9.out).mono ?_
              rintro e w27 ⟨v335, rfl, ho0, hb⟩
              refine ⟨_, rfl, ?_⟩
              have n0_ := Aside0.mk (Kd.R_elder' (by (with_reducible repeat (first | apply Kd.R_alloc | apply Kd.R_drewN | apply Kd.R_drew)); exact HO324.out) (Kd.R_base ho0) hb)
              have n1_ := Aside0.mk (Kd.R_lower (Kd.R_new' ho0 (Kd.R_lt (by (with_reducible repeat (first | apply Kd.R_alloc | apply Kd.R_drewN | apply Kd.R_drew)); exact HO324.out))) (below_size (by repeat (first | (with_reducible first | exact HB.out | apply below_alloc | apply pw_below_drewN | apply below_drew1 | refine below_set ?_ GE320.out | refine below_set ?_ GE333.out) | exact HB.out))))
              have n2_ := Aside0.mk (blk_below (g := gb320) (o := .cells #[.int .i64 a0_0, .int .i64 a0_1, .int .i64 a0_2, .int .u32 a0_3, .int .i64 a0_4] 24 (0, 0)) (by (with_reducible repeat (first | refine blk_drewN ?_ _ | refine blk_drew ?_ | refine blk_alloc ?_ _)); exact BK320.out) hb)
              have n3_ := Aside0.mk (blk_below (g := gb333) (o := .cells #[.int .i64 t327, .int .i64 t328, .int .i64 t329, .int .u32 t330, .int .i64 t331] 24 (0, 0)) (by (with_reducible repeat (first | refine blk_drewN ?_ _ | refine blk_drew ?_ | refine blk_alloc ?_ _)); exact BK333.out) hb)
              have n4_ := Aside0.mk (below_step (by repeat (first | (with_reducible first | exact HB.out | apply below_alloc | apply pw_below_drewN | apply below_drew1 | refine below_set ?_ GE320.out | refine below_set ?_ GE333.out) | exact HB.out)) hb)
              clear HO324
              clear BK320
              clear BK333
              clear HB
              have HO324 := n0_
              have HO336 := n1_
              have BK320 := n2_
              have BK333 := n3_
              have HB := n4_
              clear n0_ n1_ n2_ n3_ n4_
              (try clear hb)
              (try clear hb2)
              (try clear hk)
              (try clear hi)
              (try clear ho0)
              refine hK.out _ _ ⟨(blk_cell BK320.out 0).trans rfl, (blk_cell BK320.out 1).trans rfl, (blk_cell BK320.out 2).trans rfl, (blk_cell BK320.out 3).trans rfl, (blk_cell BK320.out 4).trans rfl, (blk_cell BK333.out 0).trans rfl, (blk_cell BK333.out 1).trans rfl, (blk_cell BK333.out 2).trans rfl, (blk_cell BK333.out 3).trans rfl, (blk_cell BK333.out 4).trans rfl, (own_string (P := Try.prog) Try.underlying26 Try.underlying5 Try.underlying9 (Kd.own_of_R (by (with_reducible repeat (first | apply Kd.R_alloc | apply Kd.R_drewN | apply Kd.R_drew)); exact HO324.out)))⟩ (fun hHeld => ?_)
              clear hK K
              refine norm_ (a' := ?_) ?_ ?_
              rotate_left
              · show Act.put _ (some 35) _ = _
                simp only [Act.put, List.setIfInBounds_toArray, List.set_cons_zero, List.set_cons_succ, i64_w, i32_w]
                rfl
              refine one_ (i := 7) (N := some 36) #[true, true, true, true, true, true, true, true, false, false, false, false, false, false, false, false, false, false, false, false, false, false, false, false, false] rfl rfl (one_of HT_.out (by kernel_rfl)) (by decide) (fun K hK => ?_)
              have hcv28 := own_string (P := Try.prog) Try.underlying26 Try.underlying5 Try.underlying9 (Kd.own_of_R HO336.out)
              refine value_ (w1 := ?_) (v := ?_) (by rfl) rfl ?_ ?_
              rotate_left 2
              · go_simp
                constructor
                · rfl
                · rfl
              clear hcv28
              refine hK.out _ _ ⟨(blk_cell BK320.out 0).trans rfl, (blk_cell BK320.out 1).trans rfl, (blk_cell BK320.out 2).trans rfl, (blk_cell BK320.out 3).trans rfl, (blk_cell BK320.out 4).trans rfl, (blk_cell BK333.out 0).trans rfl, (blk_cell BK333.out 1).trans rfl, (blk_cell BK333.out 2).trans rfl, (blk_cell BK333.out 3).trans rfl, (blk_cell BK333.out 4).trans rfl, (own_string (P := Try.prog) Try.underlying26 Try.underlying5 Try.underlying9 (Kd.own_of_R (by (with_reducible repeat (first | apply Kd.R_alloc | apply Kd.R_drewN | apply Kd.R_drew)); exact HO324.out)))⟩ (fun hHeld => ?_)
              clear hK K
              refine norm_ (a' := ?_) ?_ ?_
              rotate_left
              · show Act.put _ (some 36) _ = _
                simp only [Act.put, List.setIfInBounds_toArray, List.set_cons_zero, List.set_cons_succ, i64_w, i32_w]
                rfl
              refine pure_ (i := 8) (N := some 37) (v := ?_) (a' := ?_) #[true, true, true, true, true, true, true, true, true, false, false, false, false, false, false, false, false, false, false, false, false, false, false, false, false] rfl rfl (any_of HT_.out (by kernel_rfl)) (fun _ _ _ h => h) (Or.inl ⟨by rfl, ?_⟩) ?_ ?_
              rotate_left
              · intro w'
                go_simp
                with_reducible rfl
              rotate_left
              · simp only [Act.put, List.setIfInBounds_toArray, List.set_cons_zero, List.set_cons_succ, i64_w, i32_w]
                rfl
              refine pure_ (i := 9) (N := some 38) (v := ?_) (a' := ?_) #[true, true, true, true, true, true, true, true, true, true, false, false, false, false, false, false, false, false, false, false, false, false, false, false, false] rfl rfl (any_of HT_.out (by kernel_rfl)) (fun _ _ _ h => h) (Or.inl ⟨by rfl, ?_⟩) ?_ ?_
              rotate_left
              · intro w'
                go_simp
                with_reducible rfl
              rotate_left
              · simp only [Act.put, List.setIfInBounds_toArray, List.set_cons_zero, List.set_cons_succ, i64_w, i32_w]
                rfl
              refine pure_ (i := 10) (N := some 39) (v := ?_) (a' := ?_) #[true, true, true, true, true, true, true, true, true, true, true, false, false, false, false, false, false, false, false, false, false, false, false, false, false] rfl rfl (any_of HT_.out (by kernel_rfl)) (fun _ _ _ h => h) (Or.inl ⟨by rfl, ?_⟩) ?_ ?_
              rotate_left
              · intro w'
                go_simp
                with_reducible rfl
              rotate_left
              · simp only [Act.put, List.setIfInBounds_toArray, List.set_cons_zero, List.set_cons_succ, i64_w, i32_w]
                rfl
              refine pure_ (i := 11) (N := some 40) (v := ?_) (a' := ?_) #[true, true, true, true, true, true, true, true, true, true, true, true, false, false, false, false, false, false, false, false, false, false, false, false, false] rfl rfl (any_of HT_.out (by kernel_rfl)) (fun _ _ _ h => h) (Or.inl ⟨by rfl, ?_⟩) ?_ ?_
              rotate_left
              · intro w'
                go_simp
                with_reducible rfl
              rotate_left
              · simp only [Act.put, List.setIfInBounds_toArray, List.set_cons_zero, List.set_cons_succ, i64_w, i32_w]
                rfl
              refine pure_ (i := 12) (N := some 41) (v := ?_) (a' := ?_) #[true, true, true, true, true, true, true, true, true, true, true, true, true, false, false, false, false, false, false, false, false, false, false, false, false] rfl rfl (any_of HT_.out (by kernel_rfl)) (fun _ _ _ h => h) (Or.inl ⟨by rfl, ?_⟩) ?_ ?_
              rotate_left
              · intro w'
                go_simp
                with_reducible rfl
              rotate_left
              · simp only [Act.put, List.setIfInBounds_toArray, List.set_cons_zero, List.set_cons_succ, i64_w, i32_w]
                rfl
              refine pure_ (i := 13) (N := some 42) (v := ?_) (a' := ?_) #[true, true, true, true, true, true, true, true, true, true, true, true, true, true, false, false, false, false, false, false, false, false, false, false, false] rfl rfl (any_of HT_.out (by kernel_rfl)) (fun _ _ _ h => h) (Or.inl ⟨by rfl, ?_⟩) ?_ ?_
              rotate_left
              · intro w'
                go_simp
                with_reducible rfl
              rotate_left
              · simp only [Act.put, List.setIfInBounds_toArray, List.set_cons_zero, List.set_cons_succ, i64_w, i32_w]
                rfl
              refine pure_ (i := 14) (N := some 43) (v := ?_) (a' := ?_) #[true, true, true, true, true, true, true, true, true, true, true, true, true, true, true, false, false, false, false, false, false, false, false, false, false] rfl rfl (any_of HT_.out (by kernel_rfl)) (fun _ _ _ h => h) (Or.inl ⟨by rfl, ?_⟩) ?_ ?_
              rotate_left
              · intro w'
                go_simp
                with_reducible rfl
              rotate_left
              · simp only [Act.put, List.setIfInBounds_toArray, List.set_cons_zero, List.set_cons_succ, i64_w, i32_w]
                rfl
              refine take_ (i := 15) (N := some 44) (v := ?_) (a' := ?_) #[true, true, true, true, true, true, true, true, true, true, true, true, true, true, true, true, false, false, false, false, false, false, false, false, false] rfl rfl (take_ofW HT_.out HW_.out (by kernel_rfl)) (fun _ _ _ h => h) (Or.inl ⟨by rfl, ?_⟩) hHeld ?_ ?_
              rotate_left
              · rintro w' ⟨s0, s1, s2, s3, s4, s5, s6, s7, s8, s9, s10⟩
                go_simp
                with_reducible rfl
              rotate_left
              · simp only [Act.put, List.setIfInBounds_toArray, List.set_cons_zero, List.set_cons_succ, i64_w, i32_w]
                rfl
              refine take_ (i := 16) (N := some 45) (v := ?_) (a' := ?_) #[true, true, true, true, true, true, true, true, true, true, true, true, true, true, true, true, true, false, false, false, false, false, false, false, false] rfl rfl (take_ofW HT_.out HW_.out (by kernel_rfl)) (fun _ _ _ h => h) (Or.inl ⟨by rfl, ?_⟩) hHeld ?_ ?_
              rotate_left
              · rintro w' ⟨s0, s1, s2, s3, s4, s5, s6, s7, s8, s9, s10⟩
                go_simp
                with_reducible rfl
              rotate_left
              · simp only [Act.put, List.setIfInBounds_toArray, List.set_cons_zero, List.set_cons_succ, i64_w, i32_w]
                rfl
              refine pure_ (i := 17) (N := some 46) (v := ?_) (a' := ?_) #[true, true, true, true, true, true, true, true, true, true, true, true, true, true, true, true, true, true, false, false, false, false, false, false, false] rfl rfl (any_of HT_.out (by kernel_rfl)) (fun _ _ _ h => h) (Or.inl ⟨by rfl, ?_⟩) ?_ ?_
              rotate_left
              · intro w'
                go_simp
                with_reducible rfl
              rotate_left
              · simp only [Act.put, List.setIfInBounds_toArray, List.set_cons_zero, List.set_cons_succ, i64_w, i32_w]
                rfl
              refine pure_ (i := 18) (N := some 47) (v := ?_) (a' := ?_) #[true, true, true, true, true, true, true, true, true, true, true, true, true, true, true, true, true, true, true, false, false, false, false, false, false] rfl rfl (any_of HT_.out (by kernel_rfl)) (fun _ _ _ h => h) (Or.inl ⟨by rfl, ?_⟩) ?_ ?_
              rotate_left
              · intro w'
                go_simp
                with_reducible rfl
              rotate_left
              · simp only [Act.put, List.setIfInBounds_toArray, List.set_cons_zero, List.set_cons_succ, i64_w, i32_w]
                rfl
              refine pure_ (i := 19) (N := some 48) (v := ?_) (a' := ?_) #[true, true, true, true, true, true, true, true, true, true, true, true, true, true, true, true, true, true, true, true, false, false, false, false, false] rfl rfl (any_of HT_.out (by kernel_rfl)) (fun _ _ _ h => h) (Or.inl ⟨by rfl, ?_⟩) ?_ ?_
              rotate_left
              · intro w'
                go_simp
                with_reducible rfl
              rotate_left
              · simp only [Act.put, List.setIfInBounds_toArray, List.set_cons_zero, List.set_cons_succ, i64_w, i32_w]
                rfl
              refine pure_ (i := 20) (N := some 49) (v := ?_) (a' := ?_) #[true, true, true, true, true, true, true, true, true, true, true, true, true, true, true, true, true, true, true, true, true, false, false, false, false] rfl rfl (any_of HT_.out (by kernel_rfl)) (fun _ _ _ h => h) (Or.inl ⟨by rfl, ?_⟩) ?_ ?_
              rotate_left
              · intro w'
                go_simp
                with_reducible rfl
              rotate_left
              · simp only [Act.put, List.setIfInBounds_toArray, List.set_cons_zero, List.set_cons_succ, i64_w, i32_w]
                rfl
              refine one_ (i := 21) (N := some 50) #[true, true, true, true, true, true, true, true, true, true, true, true, true, true, true, true, true, true, true, true, true, true, false, false, false] rfl rfl (one_of HT_.out (by kernel_rfl)) (by decide) (fun K hK => ?_)
              refine goes_ Try.func16 (by kernel_rfl) rfl #[.slice Ao20 t322.length co20] (by rfl) rfl rfl (by (try simp only [List.map_toArray, List.map_cons, List.map_nil]); first | done | rfl | (simp only [List.length_drop, List.length_take]; rfl)) ?_
              with_reducible refine (frame_Which.calls k _ _ t322 t337 _ ?side1 ?side2 A13.out).mono ?_
              (case side1 => repeat (first | exact (Kd.R_reads' HO324.out).2.2 | (with_reducible refine Kd.C_alloc ?_ _) | (with_reducible refine Kd.C_drewN ?_ _) | (with_reducible refine Kd.C_drew ?_)))
              (case side2 => exact (Kd.R_reads' HO324.out).2.1)
              rintro e w' ⟨rfl, ⟨nd, rfl⟩⟩
              refine ⟨_, rfl, ?_⟩
              refine hK.out _ _ ⟨(blk_cell BK320.out 0).trans rfl, (blk_cell BK320.out 1).trans rfl, (blk_cell BK320.out 2).trans rfl, (blk_cell BK320.out 3).trans rfl, (blk_cell BK320.out 4).trans rfl, (blk_cell BK333.out 0).trans rfl, (blk_cell BK333.out 1).trans rfl, (blk_cell BK333.out 2).trans rfl, (blk_cell BK333.out 3).trans rfl, (blk_cell BK333.out 4).trans rfl, (own_string (P := Try.prog) Try.underlying26 Try.underlying5 Try.underlying9 (Kd.own_of_R (by (with_reducible repeat (first | apply Kd.R_alloc | apply Kd.R_drewN | apply Kd.R_drew)); exact HO324.out)))⟩ (fun hHeld => ?_)
              clear hK K
              refine norm_ (a' := ?_) ?_ ?_
              rotate_left
              · show Act.put _ (some 50) _ = _
                simp only [Act.put, List.setIfInBounds_toArray, List.set_cons_zero, List.set_cons_succ, i64_w, i32_w]
                rfl
              refine pure_ (i := 22) (N := some 51) (v := ?_) (a' := ?_) #[true, true, true, true, true, true, true, true, true, true, true, true, true, true, true, true, true, true, true, true, true, true, true, false, false] rfl rfl (any_of HT_.out (by kernel_rfl)) (fun _ _ _ h => h) (Or.inl ⟨by rfl, ?_⟩) ?_ ?_
              rotate_left
              · intro w'
                go_simp
                with_reducible rfl
              rotate_left
              · simp only [Act.put, List.setIfInBounds_toArray, List.set_cons_zero, List.set_cons_succ, i64_w, i32_w]
                rfl
              refine pure_ (i := 23) (N := some 52) (v := ?_) (a' := ?_) #[true, true, true, true, true, true, true, true, true, true, true, true, true, true, true, true, true, true, true, true, true, true, true, true, false] rfl rfl (any_of HT_.out (by kernel_rfl)) (fun _ _ _ h => h) (Or.inl ⟨by rfl, ?_⟩) ?_ ?_
              rotate_left
              · intro w'
                go_simp
                with_reducible rfl
              rotate_left
              · simp only [Act.put, List.setIfInBounds_toArray, List.set_cons_zero, List.set_cons_succ, i64_w, i32_w]
                rfl
              refine pure_ (i := 24) (N := some 2) (v := ?_) (a' := ?_) #[true, true, true, true, true, true, true, true, true, true, true, true, true, true, true, true, true, true, true, true, true, true, true, true, true] rfl rfl (any_of HT_.out (by kernel_rfl)) (fun _ _ _ h => h) (Or.inl ⟨by rfl, ?_⟩) ?_ ?_
              rotate_left
              · intro w'
                go_simp
                with_reducible rfl
              rotate_left
              · simp only [Act.put, List.setIfInBounds_toArray, List.set_cons_zero, List.set_cons_succ, i64_w, i32_w]
                rfl
              refine done_ (done_of HT_.out (by kernel_rfl)) ?_
              try go_wp2
              go_ret
              exact ⟨by first | rfl | (simp [errW_none, errW_some] <;> rfl) | (simp [*, errW_none, errW_some] <;> rfl), by repeat (first | (with_reducible first | exact HB.out | apply below_alloc | apply pw_below_drewN | apply below_drew1 | refine below_set ?_ GE320.out | refine below_set ?_ GE333.out) | exact HB.out)⟩
            · rw [if_neg c12] at H
              have c12b0 : (t327 == a0_0 && (t328 == a0_1 && (t329 == a0_2 && (t330 == a0_3 && (t331 == a0_4))))) = false := by simpa using c12
              (try (have c12b1 : decide (t327 = a0_0 && (t328 == a0_1 && (t329 == a0_2 && (t330 == a0_3 && (t331 == a0_4))))) = false := by simpa using c12))
              (try (have c12b2 : (t327 == a0_0 && (t328 == a0_1 && (t329 == a0_2 && (t330 == a0_3 && (t331 == a0_4))))) = false := by simpa using c12))
              (try (have c12b3 : ¬ (t327 = a0_0 && (t328 == a0_1 && (t329 == a0_2 && (t330 == a0_3 && (t331 == a0_4))))) := by simpa using c12))
              clear c12
              exact absurd H (by simp)
          · rw [if_neg c11] at H
            have c11b0 : (t332 == 0) = false := beq_eq_false_iff_ne.mpr c11
            have c11b1 : (t332 != 0) = true := bne_iff_ne.mpr c11
            exact absurd H (by simp)
        · rw [if_neg c10] at H
          have c10b0 : ((strOfNums t322).toList == (strOfNums t334).toList) = false := beq_eq_false_iff_ne.mpr c10
          have c10b1 : ((strOfNums t322).toList != (strOfNums t334).toList) = true := bne_iff_ne.mpr c10
          exact absurd H (by simp)
      · rw [if_neg c8] at H
        have c8b0 : (t325 == 0) = false := beq_eq_false_iff_ne.mpr c8
        have c8b1 : (t325 != 0) = true := bne_iff_ne.mpr c8
        exact absurd H (by simp)
    · replace c6 := Bool.eq_false_iff.mpr c6
      subst c6
      have H1 : (if t325 = 1 then (some ((t322.length : Int) == 0)) else (none)) = some r := by rw [if_neg (show ¬ (false = true) by decide)] at H; exact H
      clear H
      have H := H1
      clear H1
      by_cases c30 : t325 = 1
      · rw [if_pos c30] at H
        have c30b0 : (t325 == 1) = true := beq_iff_eq.mpr c30
        have c30b1 : (t325 != 1) = false := bne_eq_false_iff_eq.mpr c30
        clear c30
        obtain rfl := Option.some.inj H
        go_enter Try.func3, Try.ntmps3
        go_wp2_with (first | ((with_reducible refine gate_dst (N := 1) rfl ?_); (try (refine gate_guard (by rfl) ?_; dsimp only)); refine box_event ?hg (N := 1) ?hd (cs := #[.int .i64 a0_0, .int .i64 a0_1, .int .i64 a0_2, .int .u32 a0_3, .int .i64 a0_4]) (t := 24) ?hr ?_; (case hd => rfl); (case hg => rfl); (case hr => first | (go_simp; done) | (go_simp; rfl)); intro gb320 hg w31 hbox hb; have n0_ := Aside0.mk (below_step (by repeat (first | (with_reducible first | exact HB.out | apply below_alloc | apply pw_below_drewN | apply below_drew1) | exact HB.out)) hb); have n1_ := Aside0.mk (hbox); have n2_ := Aside0.mk ((by rw [hg]; exact (below_size (by repeat (first | (with_reducible first | exact HB.out | apply below_alloc | apply pw_below_drewN | apply below_drew1) | exact HB.out))) : w.heap.size ≤ gb320)); have n3_ := Aside0.mk ((by rw [hg]; exact (below_size (by repeat (first | (with_reducible first | exact HB.out | apply below_alloc | apply pw_below_drewN | apply below_drew1) | exact HB.out))) : w.heap.size ≤ gb320)); clear HB; have HB := n0_; have BK320 := n1_; have GW320 := n2_; have GE320 := n3_; clear n0_ n1_ n2_ n3_; clear hb hbox hg) | ((with_reducible refine gate_callee (f := 11) rfl ?_); refine goesL_ (some 7) rfl rfl Try.func11 (by kernel_rfl) rfl #[] rfl (by (try simp only [List.map_toArray, List.map_cons, List.map_nil]); first | done | rfl | (simp only [List.length_drop, List.length_take]; rfl)) ?_; (with_reducible refine (tocsinlaw06_fixed.calls k  true _ A2.out).mono ?_); rintro e w32 ⟨rfl, hb⟩; refine ⟨_, rfl, ?_⟩; have n0_ := Aside0.mk (blk_below (g := gb320) (o := .cells #[.int .i64 a0_0, .int .i64 a0_1, .int .i64 a0_2, .int .u32 a0_3, .int .i64 a0_4] 24 (0, 0)) (by (with_reducible repeat (first | refine blk_drewN ?_ _ | refine blk_drew ?_ | refine blk_alloc ?_ _)); exact BK320.out) hb); have n1_ := Aside0.mk (below_step (by repeat (first | (with_reducible first | exact HB.out | apply below_alloc | apply pw_below_drewN | apply below_drew1 | refine below_set ?_ GE320.out) | exact HB.out)) hb); clear BK320; clear HB; have BK320 := n0_; have HB := n1_; clear n0_ n1_; (try clear hb); (try clear hb2); (try clear hk); (try clear hi); have hcz33_0 : World.cell? _ ⟨gb320, 0, none⟩ = some (.int .i64 a0_0) := (blk_cell BK320.out 0).trans rfl; have hcz33_1 : World.cell? _ ⟨gb320, 1, none⟩ = some (.int .i64 a0_1) := (blk_cell BK320.out 1).trans rfl; have hcz33_2 : World.cell? _ ⟨gb320, 2, none⟩ = some (.int .i64 a0_2) := (blk_cell BK320.out 2).trans rfl; have hcz33_3 : World.cell? _ ⟨gb320, 3, none⟩ = some (.int .u32 a0_3) := (blk_cell BK320.out 3).trans rfl; have hcz33_4 : World.cell? _ ⟨gb320, 4, none⟩ = some (.int .i64 a0_4) := (blk_cell BK320.out 4).trans rfl; have hfz33_0 := blk_frozen BK320.out 0; have hfz33_1 := blk_frozen BK320.out 1; have hfz33_2 := blk_frozen BK320.out 2; have hfz33_3 := blk_frozen BK320.out 3; have hfz33_4 := blk_frozen BK320.out 4) | ((with_reducible refine gate_callee (f := 12) rfl ?_); refine goesL_ (some 11) rfl rfl Try.func12 (by kernel_rfl) rfl #[.agg #[.int .i64 a0_0, .int .i64 a0_1, .int .i64 a0_2, .int .u32 a0_3, .int .i64 a0_4]] rfl (by (try simp only [List.map_toArray, List.map_cons, List.map_nil]); first | done | rfl | (simp only [List.length_drop, List.length_take]; rfl)) ?_; (with_reducible refine (frame_Control.calls k a0_0 a0_1 a0_2 a0_3 a0_4 t322 t325 _ A4.out).mono ?_); rintro e w34 ⟨v323, rfl, ho0, hb⟩; refine ⟨_, rfl, ?_⟩; have n0_ := Aside0.mk (Kd.R_lower ho0 (below_size (by repeat (first | (with_reducible first | exact HB.out | apply below_alloc | apply pw_below_drewN | apply below_drew1 | refine below_set ?_ GE320.out) | exact HB.out)))); have n1_ := Aside0.mk (blk_below (g := gb320) (o := .cells #[.int .i64 a0_0, .int .i64 a0_1, .int .i64 a0_2, .int .u32 a0_3, .int .i64 a0_4] 24 (0, 0)) (by (with_reducible repeat (first | refine blk_drewN ?_ _ | refine blk_drew ?_ | refine blk_alloc ?_ _)); exact BK320.out) hb); have n2_ := Aside0.mk (below_step (by repeat (first | (with_reducible first | exact HB.out | apply below_alloc | apply pw_below_drewN | apply below_drew1 | refine below_set ?_ GE320.out) | exact HB.out)) hb); clear BK320; clear HB; have HO324 := n0_; have BK320 := n1_; have HB := n2_; clear n0_ n1_ n2_; (try clear hb); (try clear hb2); (try clear hk); (try clear hi); (try clear ho0); have hcz35_0 : World.cell? _ ⟨gb320, 0, none⟩ = some (.int .i64 a0_0) := (blk_cell BK320.out 0).trans rfl; have hcz35_1 : World.cell? _ ⟨gb320, 1, none⟩ = some (.int .i64 a0_1) := (blk_cell BK320.out 1).trans rfl; have hcz35_2 : World.cell? _ ⟨gb320, 2, none⟩ = some (.int .i64 a0_2) := (blk_cell BK320.out 2).trans rfl; have hcz35_3 : World.cell? _ ⟨gb320, 3, none⟩ = some (.int .u32 a0_3) := (blk_cell BK320.out 3).trans rfl; have hcz35_4 : World.cell? _ ⟨gb320, 4, none⟩ = some (.int .i64 a0_4) := (blk_cell BK320.out 4).trans rfl; have hfz35_0 := blk_frozen BK320.out 0; have hfz35_1 := blk_frozen BK320.out 1; have hfz35_2 := blk_frozen BK320.out 2; have hfz35_3 := blk_frozen BK320.out 3; have hfz35_4 := blk_frozen BK320.out 4) | ((with_reducible refine gate_callee (f := 13) rfl ?_); refine goesL_ (some 15) rfl rfl Try.func13 (by kernel_rfl) rfl #[.agg #[.int .i64 a0_0, .int .i64 a0_1, .int .i64 a0_2, .int .u32 a0_3, .int .i64 a0_4]] rfl (by (try simp only [List.map_toArray, List.map_cons, List.map_nil]); first | done | rfl | (simp only [List.length_drop, List.length_take]; rfl)) ?_; (with_reducible refine (tocsinref06_RightControl.calls a0_0 a0_1 a0_2 a0_3 a0_4 false _ A5.out).mono ?_); rintro e w36 ⟨rfl, hb⟩; refine ⟨_, rfl, ?_⟩; have n0_ := Aside0.mk (Kd.R_below (by (with_reducible repeat (first | apply Kd.R_alloc | apply Kd.R_drewN | apply Kd.R_drew)); exact HO324.out) hb); have n1_ := Aside0.mk (blk_below (g := gb320) (o := .cells #[.int .i64 a0_0, .int .i64 a0_1, .int .i64 a0_2, .int .u32 a0_3, .int .i64 a0_4] 24 (0, 0)) (by (with_reducible repeat (first | refine blk_drewN ?_ _ | refine blk_drew ?_ | refine blk_alloc ?_ _)); exact BK320.out) hb); have n2_ := Aside0.mk (below_step (by repeat (first | (with_reducible first | exact HB.out | apply below_alloc | apply pw_below_drewN | apply below_drew1 | refine below_set ?_ GE320.out) | exact HB.out)) hb); clear HO324; clear BK320; clear HB; have HO324 := n0_; have BK320 := n1_; have HB := n2_; clear n0_ n1_ n2_; (try clear hb); (try clear hb2); (try clear hk); (try clear hi); obtain ⟨Ao37, co37, eo37⟩ := Kd.R_slice HO324.out; subst eo37))
        go_ret
        exact ⟨by first | rfl | (simp [errW_none, errW_some] <;> rfl) | (simp [*, errW_none, errW_some] <;> rfl), by repeat (first | (with_reducible first | exact HB.out | apply below_alloc | apply pw_below_drewN | apply below_drew1 | refine below_set ?_ GE320.out) | exact HB.out)⟩
      · rw [if_neg c30] at H
        exact absurd H (by simp)
  · replace c3 := Bool.eq_false_iff.mpr c3
    subst c3
    have H1 : (none) = some r := by rw [if_neg (show ¬ (false = true) by decide)] at H; exact H
    clear H
    have H := H1
    clear H1
    exact absurd H (by simp)

def tocsinlaw06_FrameControls.Pure : Prop := ∀ (a0_0 : Int) (a0_1 : Int) (a0_2 : Int) (a0_3 : Int) (a0_4 : Int), ((Lit.int .i64 a0_0).wf = true) → ((Lit.int .i64 a0_1).wf = true) → ((Lit.int .i64 a0_2).wf = true) → ((Lit.int .u32 a0_3).wf = true) → ((Lit.int .i64 a0_4).wf = true) → ∃ k, tocsinlaw06_FrameControls.f k a0_0 a0_1 a0_2 a0_3 a0_4 = some true

end Go.Proofs.Ytgeheedfmdlefaa.PF
