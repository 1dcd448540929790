-- Written by a program for this claim.
import Derived.Test.YtgeheedfmdlefaaPFx0
import Derived.Test.YtgeheedfmdlefaaPFx1
import Derived.Test.YtgeheedfmdlefaaPFx2
import Derived.Test.YtgeheedfmdlefaaPFx6
import Derived.Test.YtgeheedfmdlefaaPFx10
import Derived.Test.YtgeheedfmdlefaaPFx12
import Derived.Test.YtgeheedfmdlefaaPFx13
import Derived.Test.YtgeheedfmdlefaaPFx15
namespace Go.Proofs.Ytgeheedfmdlefaa.PF
open Go.RowKit Go.Proofs.YtgeheedfmdlefaaW.PrintWords Go.Proofs.YtgeheedfmdlefaaW.PrintLast Go.Proofs.YtgeheedfmdlefaaW.PrintMore
attribute [local go_sem] max2_int min2_int max_two min_two max_three min_three max_four min_four   -- for this text's walks alone
set_option linter.unusedVariables false
set_option linter.unusedSimpArgs false

attribute [local go_sem high] eqA24 eqA36
/-! ### tocsinlaw06_FrameBits: function 7 -/
def tocsinlaw06_FrameBits.j0 : Nat → Int → Int → Int → Int → ByteArray → Int → Option (Bool)
  | 0, _, _, _, _, _, _ => none
  | k + 1, x2, x537000, x537001, x537002, x537003, x537004 => (frame_Data.f k x537000 x537001 x537002 x537003 x537004).bind fun bt551 => (if bt551.2 = 0 then (if (IntKind.u64.wrap (wrap64 (8 * (bt551.1.length : Int)))) = 0 then (none) else (if 0 ≤ (wrap64 (Int.tdiv (wrap64 (Int.tmod (IntKind.u64.wrap (x2)) (IntKind.u64.wrap (wrap64 (8 * (bt551.1.length : Int)))))) 8)) then (if (wrap64 (Int.tdiv (wrap64 (Int.tmod (IntKind.u64.wrap (x2)) (IntKind.u64.wrap (wrap64 (8 * (bt551.1.length : Int)))))) 8)) < (bt551.1.length : Int) then (if 0 ≤ (IntKind.u64.wrap (Int.tmod (wrap64 (Int.tmod (IntKind.u64.wrap (x2)) (IntKind.u64.wrap (wrap64 (8 * (bt551.1.length : Int)))))) 8)) then ((frame_ReadData.f k (bt551.1.set ((wrap64 (Int.tdiv (wrap64 (Int.tmod (IntKind.u64.wrap (x2)) (IntKind.u64.wrap (wrap64 (8 * (bt551.1.length : Int)))))) 8)) : Int).toNat (Go.bits .xor .u8 (rd bt551.1 (wrap64 (Int.tdiv (wrap64 (Int.tmod (IntKind.u64.wrap (x2)) (IntKind.u64.wrap (wrap64 (8 * (bt551.1.length : Int)))))) 8))) (shl .u8 1 (IntKind.u64.wrap (Int.tmod (wrap64 (Int.tmod (IntKind.u64.wrap (x2)) (IntKind.u64.wrap (wrap64 (8 * (bt551.1.length : Int)))))) 8)))))).bind fun bt557 => (if bt557.2.2.2.2.2 = 0 then (none) else (if (!(bt557.1 == 0) || (!(bt557.2.1 == 0) || (!(bt557.2.2.1 == 0) || (!(bt557.2.2.2.1.toList == ([] : List UInt8)) || (!(bt557.2.2.2.2.1 == 0)))))) = true then (none) else (some true)))) else (none)) else (none)) else (none))) else (some true))
def tocsinlaw06_FrameBits.f (k : Nat) (a0_0 : Int) (a0_1 : Int) (a0_2 : Int) (a0_3 : Int) (a0_4 : Int) (a1_0 : Int) (a1_1 : Int) (a1_2 : Int) (a1_3 : ByteArray) (a1_4 : Int) (a2 : Int) : Option (Bool) := (tocsinlaw06_fixed.f k).bind fun t537 => (if t537 = true then ((frame_Control.f k a0_0 a0_1 a0_2 a0_3 a0_4).bind fun bt538 => (if bt538.2 = 0 then (if (IntKind.u64.wrap (wrap64 (8 * (bt538.1.length : Int)))) = 0 then (none) else (if 0 ≤ (wrap64 (Int.tdiv (wrap64 (Int.tmod (IntKind.u64.wrap (a2)) (IntKind.u64.wrap (wrap64 (8 * (bt538.1.length : Int)))))) 8)) then (if (wrap64 (Int.tdiv (wrap64 (Int.tmod (IntKind.u64.wrap (a2)) (IntKind.u64.wrap (wrap64 (8 * (bt538.1.length : Int)))))) 8)) < (bt538.1.length : Int) then (if 0 ≤ (IntKind.u64.wrap (Int.tmod (wrap64 (Int.tmod (IntKind.u64.wrap (a2)) (IntKind.u64.wrap (wrap64 (8 * (bt538.1.length : Int)))))) 8)) then ((frame_ReadControl.f k (bt538.1.set ((wrap64 (Int.tdiv (wrap64 (Int.tmod (IntKind.u64.wrap (a2)) (IntKind.u64.wrap (wrap64 (8 * (bt538.1.length : Int)))))) 8)) : Int).toNat (Go.bits .xor .u8 (rd bt538.1 (wrap64 (Int.tdiv (wrap64 (Int.tmod (IntKind.u64.wrap (a2)) (IntKind.u64.wrap (wrap64 (8 * (bt538.1.length : Int)))))) 8))) (shl .u8 1 (IntKind.u64.wrap (Int.tmod (wrap64 (Int.tmod (IntKind.u64.wrap (a2)) (IntKind.u64.wrap (wrap64 (8 * (bt538.1.length : Int)))))) 8)))))).bind fun bt544 => (if bt544.2.2.2.2.2 = 0 then (none) else (if (!(bt544.1 == 0) || (!(bt544.2.1 == 0) || (!(bt544.2.2.1 == 0) || (!(bt544.2.2.2.1 == 0) || (!(bt544.2.2.2.2.1 == 0)))))) = true then (none) else (tocsinlaw06_FrameBits.j0 k a2 a1_0 a1_1 a1_2 a1_3 a1_4)))) else (none)) else (none)) else (none))) else (tocsinlaw06_FrameBits.j0 k a2 a1_0 a1_1 a1_2 a1_3 a1_4))) else (none))
theorem tocsinlaw06_FrameBits.mono_l : ∀ k, (∀ y0 y1 y2 y3 y4 y5, LeO (tocsinlaw06_FrameBits.j0 k y0 y1 y2 y3 y4 y5) (tocsinlaw06_FrameBits.j0 (k + 1) y0 y1 y2 y3 y4 y5))
  | 0 => fun _ _ _ _ _ _ r h => by simp [tocsinlaw06_FrameBits.j0] at h
  | k + 1 => by
    have ih0 := tocsinlaw06_FrameBits.mono_l k
    · intro y0 y1 y2 y3 y4 y5
      unfold tocsinlaw06_FrameBits.j0
      repeat' first
      | (with_reducible exact ih0 _ _ _ _ _ _)
      | (with_reducible exact frame_Control.mono _ _ _ _ _ _)
      | (with_reducible exact frame_Data.mono _ _ _ _ _ _)
      | (with_reducible exact frame_ReadControl.mono _ _)
      | (with_reducible exact frame_ReadData.mono _ _)
      | (with_reducible exact tocsinlaw06_fixed.mono _)
      | (with_reducible exact LeO.refl _)
      | (with_reducible exact LeO.none _)
      | (with_reducible refine LeO.ite ?_ ?_)
      | (with_reducible refine LeO.bind ?_ (fun _ => ?_))
      | exact ih0 _ _ _ _ _ _
      | exact frame_Control.mono _ _ _ _ _ _
      | exact frame_Data.mono _ _ _ _ _ _
      | exact frame_ReadControl.mono _ _
      | exact frame_ReadData.mono _ _
      | exact tocsinlaw06_fixed.mono _
      | exact LeO.none _
      | refine LeO.ite ?_ ?_
      | refine LeO.bind ?_ (fun _ => ?_)
theorem tocsinlaw06_FrameBits.mono : ∀ a0 a1 a2 a3 a4 a5 a6 a7 a8 a9 a10 k, LeO (tocsinlaw06_FrameBits.f k a0 a1 a2 a3 a4 a5 a6 a7 a8 a9 a10) (tocsinlaw06_FrameBits.f (k + 1) a0 a1 a2 a3 a4 a5 a6 a7 a8 a9 a10) := by
  intro a0 a1 a2 a3 a4 a5 a6 a7 a8 a9 a10 k
  have ih0 := tocsinlaw06_FrameBits.mono_l k
  unfold tocsinlaw06_FrameBits.f
  repeat' first
      | (with_reducible exact ih0 _ _ _ _ _ _)
      | (with_reducible exact frame_Control.mono _ _ _ _ _ _)
      | (with_reducible exact frame_Data.mono _ _ _ _ _ _)
      | (with_reducible exact frame_ReadControl.mono _ _)
      | (with_reducible exact frame_ReadData.mono _ _)
      | (with_reducible exact tocsinlaw06_fixed.mono _)
      | (with_reducible exact LeO.refl _)
      | (with_reducible exact LeO.none _)
      | (with_reducible refine LeO.ite ?_ ?_)
      | (with_reducible refine LeO.bind ?_ (fun _ => ?_))
      | exact ih0 _ _ _ _ _ _
      | exact frame_Control.mono _ _ _ _ _ _
      | exact frame_Data.mono _ _ _ _ _ _
      | exact frame_ReadControl.mono _ _
      | exact frame_ReadData.mono _ _
      | exact tocsinlaw06_fixed.mono _
      | exact LeO.none _
      | refine LeO.ite ?_ ?_
      | refine LeO.bind ?_ (fun _ => ?_)
set_option maxHeartbeats 8000000 in
set_option maxRecDepth 100000 in
theorem tocsinlaw06_FrameBits.calls (k : Nat) (a0_0 : Int) (a0_1 : Int) (a0_2 : Int) (a0_3 : Int) (a0_4 : Int) (a1_0 : Int) (a1_1 : Int) (a1_2 : Int) (a1_3 : ByteArray) (a1_4 : Int) (a2 : Int) (r : Bool) (w : World) (h : tocsinlaw06_FrameBits.f k a0_0 a0_1 a0_2 a0_3 a0_4 a1_0 a1_1 a1_2 a1_3 a1_4 a2 = some r) :
    Calls Try.prog 7 #[.agg #[.int .i64 a0_0, .int .i64 a0_1, .int .i64 a0_2, .int .u32 a0_3, .int .i64 a0_4], .agg #[.int .i64 a1_0, .int .i64 a1_1, .int .i64 a1_2, .string a1_3, .int .i64 a1_4], .int .i64 a2] w fun e w' => e = .returned (.bool r) ∧ Below w.heap.size w w' := by
  have hu24 := Try.underlying24
  have hu36 := Try.underlying36
  have HB := Aside0.mk (Below.refl w.heap.size w)
  have H : ((tocsinlaw06_fixed.f k).bind fun t537 => (if t537 = true then ((frame_Control.f k a0_0 a0_1 a0_2 a0_3 a0_4).bind fun bt538 => (if bt538.2 = 0 then (if (IntKind.u64.wrap (wrap64 (8 * (bt538.1.length : Int)))) = 0 then (none) else (if 0 ≤ (wrap64 (Int.tdiv (wrap64 (Int.tmod (IntKind.u64.wrap (a2)) (IntKind.u64.wrap (wrap64 (8 * (bt538.1.length : Int)))))) 8)) then (if (wrap64 (Int.tdiv (wrap64 (Int.tmod (IntKind.u64.wrap (a2)) (IntKind.u64.wrap (wrap64 (8 * (bt538.1.length : Int)))))) 8)) < (bt538.1.length : Int) then (if 0 ≤ (IntKind.u64.wrap (Int.tmod (wrap64 (Int.tmod (IntKind.u64.wrap (a2)) (IntKind.u64.wrap (wrap64 (8 * (bt538.1.length : Int)))))) 8)) then ((frame_ReadControl.f k (bt538.1.set ((wrap64 (Int.tdiv (wrap64 (Int.tmod (IntKind.u64.wrap (a2)) (IntKind.u64.wrap (wrap64 (8 * (bt538.1.length : Int)))))) 8)) : Int).toNat (Go.bits .xor .u8 (rd bt538.1 (wrap64 (Int.tdiv (wrap64 (Int.tmod (IntKind.u64.wrap (a2)) (IntKind.u64.wrap (wrap64 (8 * (bt538.1.length : Int)))))) 8))) (shl .u8 1 (IntKind.u64.wrap (Int.tmod (wrap64 (Int.tmod (IntKind.u64.wrap (a2)) (IntKind.u64.wrap (wrap64 (8 * (bt538.1.length : Int)))))) 8)))))).bind fun bt544 => (if bt544.2.2.2.2.2 = 0 then (none) else (if (!(bt544.1 == 0) || (!(bt544.2.1 == 0) || (!(bt544.2.2.1 == 0) || (!(bt544.2.2.2.1 == 0) || (!(bt544.2.2.2.2.1 == 0)))))) = true then (none) else (tocsinlaw06_FrameBits.j0 k a2 a1_0 a1_1 a1_2 a1_3 a1_4)))) else (none)) else (none)) else (none))) else (tocsinlaw06_FrameBits.j0 k a2 a1_0 a1_1 a1_2 a1_3 a1_4))) else (none))) = some r := h
  clear h
  replace H := Option.bind_eq_some_iff.mp H
  obtain ⟨t537, A40, H⟩ := H
  replace H : (if t537 = true then ((frame_Control.f k a0_0 a0_1 a0_2 a0_3 a0_4).bind fun bt538 => (if bt538.2 = 0 then (if (IntKind.u64.wrap (wrap64 (8 * (bt538.1.length : Int)))) = 0 then (none) else (if 0 ≤ (wrap64 (Int.tdiv (wrap64 (Int.tmod (IntKind.u64.wrap (a2)) (IntKind.u64.wrap (wrap64 (8 * (bt538.1.length : Int)))))) 8)) then (if (wrap64 (Int.tdiv (wrap64 (Int.tmod (IntKind.u64.wrap (a2)) (IntKind.u64.wrap (wrap64 (8 * (bt538.1.length : Int)))))) 8)) < (bt538.1.length : Int) then (if 0 ≤ (IntKind.u64.wrap (Int.tmod (wrap64 (Int.tmod (IntKind.u64.wrap (a2)) (IntKind.u64.wrap (wrap64 (8 * (bt538.1.length : Int)))))) 8)) then ((frame_ReadControl.f k (bt538.1.set ((wrap64 (Int.tdiv (wrap64 (Int.tmod (IntKind.u64.wrap (a2)) (IntKind.u64.wrap (wrap64 (8 * (bt538.1.length : Int)))))) 8)) : Int).toNat (Go.bits .xor .u8 (rd bt538.1 (wrap64 (Int.tdiv (wrap64 (Int.tmod (IntKind.u64.wrap (a2)) (IntKind.u64.wrap (wrap64 (8 * (bt538.1.length : Int)))))) 8))) (shl .u8 1 (IntKind.u64.wrap (Int.tmod (wrap64 (Int.tmod (IntKind.u64.wrap (a2)) (IntKind.u64.wrap (wrap64 (8 * (bt538.1.length : Int)))))) 8)))))).bind fun bt544 => (if bt544.2.2.2.2.2 = 0 then (none) else (if (!(bt544.1 == 0) || (!(bt544.2.1 == 0) || (!(bt544.2.2.1 == 0) || (!(bt544.2.2.2.1 == 0) || (!(bt544.2.2.2.2.1 == 0)))))) = true then (none) else (tocsinlaw06_FrameBits.j0 k a2 a1_0 a1_1 a1_2 a1_3 a1_4)))) else (none)) else (none)) else (none))) else (tocsinlaw06_FrameBits.j0 k a2 a1_0 a1_1 a1_2 a1_3 a1_4))) else (none)) = some r := H
  have A4 := Aside0.mk A40
  clear A40
  by_cases c5 : t537 = true
  · subst c5
    have H1 : ((frame_Control.f k a0_0 a0_1 a0_2 a0_3 a0_4).bind fun bt538 => (if bt538.2 = 0 then (if (IntKind.u64.wrap (wrap64 (8 * (bt538.1.length : Int)))) = 0 then (none) else (if 0 ≤ (wrap64 (Int.tdiv (wrap64 (Int.tmod (IntKind.u64.wrap (a2)) (IntKind.u64.wrap (wrap64 (8 * (bt538.1.length : Int)))))) 8)) then (if (wrap64 (Int.tdiv (wrap64 (Int.tmod (IntKind.u64.wrap (a2)) (IntKind.u64.wrap (wrap64 (8 * (bt538.1.length : Int)))))) 8)) < (bt538.1.length : Int) then (if 0 ≤ (IntKind.u64.wrap (Int.tmod (wrap64 (Int.tmod (IntKind.u64.wrap (a2)) (IntKind.u64.wrap (wrap64 (8 * (bt538.1.length : Int)))))) 8)) then ((frame_ReadControl.f k (bt538.1.set ((wrap64 (Int.tdiv (wrap64 (Int.tmod (IntKind.u64.wrap (a2)) (IntKind.u64.wrap (wrap64 (8 * (bt538.1.length : Int)))))) 8)) : Int).toNat (Go.bits .xor .u8 (rd bt538.1 (wrap64 (Int.tdiv (wrap64 (Int.tmod (IntKind.u64.wrap (a2)) (IntKind.u64.wrap (wrap64 (8 * (bt538.1.length : Int)))))) 8))) (shl .u8 1 (IntKind.u64.wrap (Int.tmod (wrap64 (Int.tmod (IntKind.u64.wrap (a2)) (IntKind.u64.wrap (wrap64 (8 * (bt538.1.length : Int)))))) 8)))))).bind fun bt544 => (if bt544.2.2.2.2.2 = 0 then (none) else (if (!(bt544.1 == 0) || (!(bt544.2.1 == 0) || (!(bt544.2.2.1 == 0) || (!(bt544.2.2.2.1 == 0) || (!(bt544.2.2.2.2.1 == 0)))))) = true then (none) else (tocsinlaw06_FrameBits.j0 k a2 a1_0 a1_1 a1_2 a1_3 a1_4)))) else (none)) else (none)) else (none))) else (tocsinlaw06_FrameBits.j0 k a2 a1_0 a1_1 a1_2 a1_3 a1_4))) = some r := by rw [if_pos rfl] at H; exact H
    clear H
    have H := H1
    clear H1
    replace H := Option.bind_eq_some_iff.mp H
    obtain ⟨⟨t538, t541⟩, A60, H⟩ := H
    replace H : (if t541 = 0 then (if (IntKind.u64.wrap (wrap64 (8 * (t538.length : Int)))) = 0 then (none) else (if 0 ≤ (wrap64 (Int.tdiv (wrap64 (Int.tmod (IntKind.u64.wrap (a2)) (IntKind.u64.wrap (wrap64 (8 * (t538.length : Int)))))) 8)) then (if (wrap64 (Int.tdiv (wrap64 (Int.tmod (IntKind.u64.wrap (a2)) (IntKind.u64.wrap (wrap64 (8 * (t538.length : Int)))))) 8)) < (t538.length : Int) then (if 0 ≤ (IntKind.u64.wrap (Int.tmod (wrap64 (Int.tmod (IntKind.u64.wrap (a2)) (IntKind.u64.wrap (wrap64 (8 * (t538.length : Int)))))) 8)) then ((frame_ReadControl.f k (t538.set ((wrap64 (Int.tdiv (wrap64 (Int.tmod (IntKind.u64.wrap (a2)) (IntKind.u64.wrap (wrap64 (8 * (t538.length : Int)))))) 8)) : Int).toNat (Go.bits .xor .u8 (rd t538 (wrap64 (Int.tdiv (wrap64 (Int.tmod (IntKind.u64.wrap (a2)) (IntKind.u64.wrap (wrap64 (8 * (t538.length : Int)))))) 8))) (shl .u8 1 (IntKind.u64.wrap (Int.tmod (wrap64 (Int.tmod (IntKind.u64.wrap (a2)) (IntKind.u64.wrap (wrap64 (8 * (t538.length : Int)))))) 8)))))).bind fun bt544 => (if bt544.2.2.2.2.2 = 0 then (none) else (if (!(bt544.1 == 0) || (!(bt544.2.1 == 0) || (!(bt544.2.2.1 == 0) || (!(bt544.2.2.2.1 == 0) || (!(bt544.2.2.2.2.1 == 0)))))) = true then (none) else (tocsinlaw06_FrameBits.j0 k a2 a1_0 a1_1 a1_2 a1_3 a1_4)))) else (none)) else (none)) else (none))) else (tocsinlaw06_FrameBits.j0 k a2 a1_0 a1_1 a1_2 a1_3 a1_4)) = some r := H
    have A6 := Aside0.mk A60
    clear A60
    have HC7 := Aside0.mk H
    clear H
    go_enter Try.func7, Try.ntmps7
    go_upto_if 25 with (first | ((with_reducible refine gate_dst (N := 3) rfl ?_); refine box_event ?hg (N := 3) ?hd (cs := #[.int .i64 a0_0, .int .i64 a0_1, .int .i64 a0_2, .int .u32 a0_3, .int .i64 a0_4]) (t := 24) ?hr ?_; (case hd => rfl); (case hg => rfl); (case hr => first | (go_simp; done) | (go_simp; rfl)); intro gb535 hg w8 hbox hb; have n0_ := Aside0.mk (below_step (by repeat (first | (with_reducible first | exact HB.out | apply below_alloc | apply pw_below_drewN | apply below_drew1) | exact HB.out)) hb); have n1_ := Aside0.mk (hbox); have n2_ := Aside0.mk ((by rw [hg]; exact (below_size (by repeat (first | (with_reducible first | exact HB.out | apply below_alloc | apply pw_below_drewN | apply below_drew1) | exact HB.out))) : w.heap.size ≤ gb535)); have n3_ := Aside0.mk ((by rw [hg]; exact (below_size (by repeat (first | (with_reducible first | exact HB.out | apply below_alloc | apply pw_below_drewN | apply below_drew1) | exact HB.out))) : w.heap.size ≤ gb535)); clear HB; have HB := n0_; have BK535 := n1_; have GW535 := n2_; have GE535 := n3_; clear n0_ n1_ n2_ n3_; clear hb hbox hg) | ((with_reducible refine gate_dst (N := 4) rfl ?_); refine box_event ?hg (N := 4) ?hd (cs := #[.int .i64 a1_0, .int .i64 a1_1, .int .i64 a1_2, .string a1_3, .int .i64 a1_4]) (t := 36) ?hr ?_; (case hd => rfl); (case hg => rfl); (case hr => first | (go_simp; done) | (go_simp; rfl)); intro gb536 hg w9 hbox hb; have n0_ := Aside0.mk (blk_below (g := gb535) (o := .cells #[.int .i64 a0_0, .int .i64 a0_1, .int .i64 a0_2, .int .u32 a0_3, .int .i64 a0_4] 24 (0, 0)) (by (with_reducible repeat (first | refine blk_drewN ?_ _ | refine blk_drew ?_ | refine blk_alloc ?_ _)); exact BK535.out) hb); have n1_ := Aside0.mk (below_step (by repeat (first | (with_reducible first | exact HB.out | apply below_alloc | apply pw_below_drewN | apply below_drew1 | refine below_set ?_ GE535.out) | exact HB.out)) hb); have n2_ := Aside0.mk (hbox); have n3_ := Aside0.mk ((by rw [hg]; exact (below_size (by repeat (first | (with_reducible first | exact HB.out | apply below_alloc | apply pw_below_drewN | apply below_drew1 | refine below_set ?_ GE535.out) | exact HB.out))) : w.heap.size ≤ gb536)); have n4_ := Aside0.mk ((by rw [hg]; exact (below_size (by repeat (first | (with_reducible first | exact HB.out | apply below_alloc | apply pw_below_drewN | apply below_drew1 | refine below_set ?_ GE535.out) | exact HB.out))) : w.heap.size ≤ gb536)); have n5_ := Aside0.mk ((by rw [hg]; exact Nat.ne_of_lt (blk_lt (g := gb535) (o := .cells #[.int .i64 a0_0, .int .i64 a0_1, .int .i64 a0_2, .int .u32 a0_3, .int .i64 a0_4] 24 (0, 0)) (by (with_reducible repeat (first | refine blk_drewN ?_ _ | refine blk_drew ?_ | refine blk_alloc ?_ _)); exact BK535.out)) : gb535 ≠ gb536)); have n6_ := Aside0.mk ((by rw [hg]; exact Nat.ne_of_gt (blk_lt (g := gb535) (o := .cells #[.int .i64 a0_0, .int .i64 a0_1, .int .i64 a0_2, .int .u32 a0_3, .int .i64 a0_4] 24 (0, 0)) (by (with_reducible repeat (first | refine blk_drewN ?_ _ | refine blk_drew ?_ | refine blk_alloc ?_ _)); exact BK535.out)) : gb536 ≠ gb535)); clear BK535; clear HB; have BK535 := n0_; have HB := n1_; have BK536 := n2_; have GW536 := n3_; have GE536 := n4_; have NB535_536 := n5_; have NB536_535 := n6_; clear n0_ n1_ n2_ n3_ n4_ n5_ n6_; clear hb hbox hg) | ((with_reducible refine gate_callee (f := 11) rfl ?_); refine goesL_ (some 17) rfl rfl Try.func11 (by kernel_rfl) rfl #[] rfl (by (try simp only [List.map_toArray, List.map_cons, List.map_nil]); first | done | rfl | (simp only [List.length_drop, List.length_take]; rfl)) ?_; (with_reducible refine (tocsinlaw06_fixed.calls k  true _ A4.out).mono ?_); rintro e w10 ⟨rfl, hb⟩; refine ⟨_, rfl, ?_⟩; have n0_ := Aside0.mk (blk_below (g := gb535) (o := .cells #[.int .i64 a0_0, .int .i64 a0_1, .int .i64 a0_2, .int .u32 a0_3, .int .i64 a0_4] 24 (0, 0)) (by (with_reducible repeat (first | refine blk_drewN ?_ _ | refine blk_drew ?_ | refine blk_alloc ?_ _)); exact BK535.out) hb); have n1_ := Aside0.mk (blk_below (g := gb536) (o := .cells #[.int .i64 a1_0, .int .i64 a1_1, .int .i64 a1_2, .string a1_3, .int .i64 a1_4] 36 (0, 0)) (by (with_reducible repeat (first | refine blk_drewN ?_ _ | refine blk_drew ?_ | refine blk_alloc ?_ _)); exact BK536.out) hb); have n2_ := Aside0.mk (below_step (by repeat (first | (with_reducible first | exact HB.out | apply below_alloc | apply pw_below_drewN | apply below_drew1 | refine below_set ?_ GE535.out | refine below_set ?_ GE536.out) | exact HB.out)) hb); clear BK535; clear BK536; clear HB; have BK535 := n0_; have BK536 := n1_; have HB := n2_; clear n0_ n1_ n2_; (try clear hb); (try clear hb2); (try clear hk); (try clear hi); have hnb11 := NB535_536.out; have hnc11 := NB536_535.out; have hcz12_0 : World.cell? _ ⟨gb535, 0, none⟩ = some (.int .i64 a0_0) := (blk_cell BK535.out 0).trans rfl; have hcz12_1 : World.cell? _ ⟨gb535, 1, none⟩ = some (.int .i64 a0_1) := (blk_cell BK535.out 1).trans rfl; have hcz12_2 : World.cell? _ ⟨gb535, 2, none⟩ = some (.int .i64 a0_2) := (blk_cell BK535.out 2).trans rfl; have hcz12_3 : World.cell? _ ⟨gb535, 3, none⟩ = some (.int .u32 a0_3) := (blk_cell BK535.out 3).trans rfl; have hcz12_4 : World.cell? _ ⟨gb535, 4, none⟩ = some (.int .i64 a0_4) := (blk_cell BK535.out 4).trans rfl; have hfz12_0 := blk_frozen BK535.out 0; have hfz12_1 := blk_frozen BK535.out 1; have hfz12_2 := blk_frozen BK535.out 2; have hfz12_3 := blk_frozen BK535.out 3; have hfz12_4 := blk_frozen BK535.out 4) | ((with_reducible refine gate_callee (f := 12) rfl ?_); refine goesL_ (some 21) rfl rfl Try.func12 (by kernel_rfl) rfl #[.agg #[.int .i64 a0_0, .int .i64 a0_1, .int .i64 a0_2, .int .u32 a0_3, .int .i64 a0_4]] rfl (by (try simp only [List.map_toArray, List.map_cons, List.map_nil]); first | done | rfl | (simp only [List.length_drop, List.length_take]; rfl)) ?_; (with_reducible refine (frame_Control.calls k a0_0 a0_1 a0_2 a0_3 a0_4 t538 t541 _ A6.out).mono ?_); rintro e w13 ⟨v539, rfl, ho0, hb⟩; refine ⟨_, rfl, ?_⟩; have n0_ := Aside0.mk (Kd.R_lower ho0 (below_size (by repeat (first | (with_reducible first | exact HB.out | apply below_alloc | apply pw_below_drewN | apply below_drew1 | refine below_set ?_ GE535.out | refine below_set ?_ GE536.out) | exact HB.out)))); have n1_ := Aside0.mk (blk_below (g := gb535) (o := .cells #[.int .i64 a0_0, .int .i64 a0_1, .int .i64 a0_2, .int .u32 a0_3, .int .i64 a0_4] 24 (0, 0)) (by (with_reducible repeat (first | refine blk_drewN ?_ _ | refine blk_drew ?_ | refine blk_alloc ?_ _)); exact BK535.out) hb); have n2_ := Aside0.mk (blk_below (g := gb536) (o := .cells #[.int .i64 a1_0, .int .i64 a1_1, .int .i64 a1_2, .string a1_3, .int .i64 a1_4] 36 (0, 0)) (by (with_reducible repeat (first | refine blk_drewN ?_ _ | refine blk_drew ?_ | refine blk_alloc ?_ _)); exact BK536.out) hb); have n3_ := Aside0.mk (below_step (by repeat (first | (with_reducible first | exact HB.out | apply below_alloc | apply pw_below_drewN | apply below_drew1 | refine below_set ?_ GE535.out | refine below_set ?_ GE536.out) | exact HB.out)) hb); clear BK535; clear BK536; clear HB; have HO540 := n0_; have BK535 := n1_; have BK536 := n2_; have HB := n3_; clear n0_ n1_ n2_ n3_; (try clear hb); (try clear hb2); (try clear hk); (try clear hi); (try clear ho0)))
    (try simp only [Act.put, List.setIfInBounds_toArray, List.set_cons_zero, List.set_cons_succ])
    go_cut [] (fun wc => ∃ (kq : Nat), Aside0 (tocsinlaw06_FrameBits.j0 kq a2 a1_0 a1_1 a1_2 a1_3 a1_4 = some r) ∧ Aside0 (kq ≤ k) ∧ Aside0 (wc.heap[gb535]? = some (.cells #[.int .i64 a0_0, .int .i64 a0_1, .int .i64 a0_2, .int .u32 a0_3, .int .i64 a0_4] 24 (0, 0))) ∧ Aside0 (wc.heap[gb536]? = some (.cells #[.int .i64 a1_0, .int .i64 a1_1, .int .i64 a1_2, .string a1_3, .int .i64 a1_4] 36 (0, 0))) ∧ Aside0 (Below w.heap.size w wc))
    case first =>
      have H := HC7.out
      clear HC7
      by_cases c14 : t541 = 0
      · rw [if_pos c14] at H
        have c14b0 : (t541 == 0) = true := beq_iff_eq.mpr c14
        have c14b1 : (t541 != 0) = false := bne_eq_false_iff_eq.mpr c14
        clear c14
        (first | rw [c14b0] | (simp only [i64_w, i32_w]; rw [c14b0]) | skip)
        by_cases c15 : (IntKind.u64.wrap (wrap64 (8 * (t538.length : Int)))) = 0
        · rw [if_pos c15] at H
          exact absurd H (by simp)
        · rw [if_neg c15] at H
          have c15b0 : ((IntKind.u64.wrap (wrap64 (8 * (t538.length : Int)))) == 0) = false := beq_eq_false_iff_ne.mpr c15
          have c15b1 : ((IntKind.u64.wrap (wrap64 (8 * (t538.length : Int)))) != 0) = true := bne_iff_ne.mpr c15
          obtain ⟨ji16, hji16⟩ : ∃ j_ : Int, (wrap64 (Int.tdiv (wrap64 (Int.tmod (IntKind.u64.wrap (a2)) (IntKind.u64.wrap (wrap64 (8 * (t538.length : Int)))))) 8)) = j_ := ⟨_, rfl⟩
          replace H : (if 0 ≤ (ji16) then (if (ji16) < (t538.length : Int) then (if 0 ≤ (IntKind.u64.wrap (Int.tmod (wrap64 (Int.tmod (IntKind.u64.wrap (a2)) (IntKind.u64.wrap (wrap64 (8 * (t538.length : Int)))))) 8)) then ((frame_ReadControl.f k (t538.set ((ji16) : Int).toNat (Go.bits .xor .u8 (rd t538 (ji16)) (shl .u8 1 (IntKind.u64.wrap (Int.tmod (wrap64 (Int.tmod (IntKind.u64.wrap (a2)) (IntKind.u64.wrap (wrap64 (8 * (t538.length : Int)))))) 8)))))).bind fun bt544 => (if bt544.2.2.2.2.2 = 0 then (none) else (if (!(bt544.1 == 0) || (!(bt544.2.1 == 0) || (!(bt544.2.2.1 == 0) || (!(bt544.2.2.2.1 == 0) || (!(bt544.2.2.2.2.1 == 0)))))) = true then (none) else (tocsinlaw06_FrameBits.j0 k a2 a1_0 a1_1 a1_2 a1_3 a1_4)))) else (none)) else (none)) else (none)) = some r := by first | (rw [hji16] at H; exact H) | (simp only [hji16] at H ⊢; exact H)
          have hji16w : (IntKind.i64.wrap (Int.tdiv (wrap64 (Int.tmod (IntKind.u64.wrap (a2)) (IntKind.u64.wrap (wrap64 (8 * (t538.length : Int)))))) 8)) = ji16 := (i64_w _).trans hji16
          by_cases c17 : 0 ≤ (ji16)
          · rw [if_pos c17] at H
            have c17b0 : decide (0 ≤ (ji16)) = true := decide_eq_true c17
            clear c17
            by_cases c18 : (ji16) < (t538.length : Int)
            · rw [if_pos c18] at H
              have c18b0 : decide ((ji16) < (t538.length : Int)) = true := decide_eq_true c18
              clear c18
              obtain ⟨ji19, hji19⟩ : ∃ j_ : Int, (IntKind.u64.wrap (Int.tmod (wrap64 (Int.tmod (IntKind.u64.wrap (a2)) (IntKind.u64.wrap (wrap64 (8 * (t538.length : Int)))))) 8)) = j_ := ⟨_, rfl⟩
              replace H : (if 0 ≤ (ji19) then ((frame_ReadControl.f k (t538.set ((ji16) : Int).toNat (Go.bits .xor .u8 (rd t538 (ji16)) (shl .u8 1 (ji19))))).bind fun bt544 => (if bt544.2.2.2.2.2 = 0 then (none) else (if (!(bt544.1 == 0) || (!(bt544.2.1 == 0) || (!(bt544.2.2.1 == 0) || (!(bt544.2.2.2.1 == 0) || (!(bt544.2.2.2.2.1 == 0)))))) = true then (none) else (tocsinlaw06_FrameBits.j0 k a2 a1_0 a1_1 a1_2 a1_3 a1_4)))) else (none)) = some r := by first | (rw [hji19] at H; exact H) | (simp only [hji19] at H ⊢; exact H)
              by_cases c20 : 0 ≤ (ji19)
              · rw [if_pos c20] at H
                have c20b0 := eq_true c20
                have c20b1 : decide (0 ≤ (ji19)) = true := decide_eq_true c20
                clear c20
                obtain ⟨ji21, hji21⟩ : ∃ j_ : Int, (shl .u8 1 (ji19)) = j_ := ⟨_, rfl⟩
                replace H : ((frame_ReadControl.f k (t538.set ((ji16) : Int).toNat (Go.bits .xor .u8 (rd t538 (ji16)) (ji21)))).bind fun bt544 => (if bt544.2.2.2.2.2 = 0 then (none) else (if (!(bt544.1 == 0) || (!(bt544.2.1 == 0) || (!(bt544.2.2.1 == 0) || (!(bt544.2.2.2.1 == 0) || (!(bt544.2.2.2.2.1 == 0)))))) = true then (none) else (tocsinlaw06_FrameBits.j0 k a2 a1_0 a1_1 a1_2 a1_3 a1_4)))) = some r := by first | (rw [hji21] at H; exact H) | (simp only [hji21] at H ⊢; exact H)
                have hji21_ : (IntKind.u8.wrap (1 * 2 ^ min (ji19).toNat 8)) = ji21 := hji21
                have hji21z : (ji19) ≤ 8 → (IntKind.u8.wrap (1 * 2 ^ (ji19).toNat)) = ji21 := shl_small hji21
                have hji21u : (IntKind.u8.wrap (2 ^ min (ji19).toNat 8)) = ji21 := by have h_ := hji21_; rw [Int.one_mul] at h_; exact h_
                have hji21v : (ji19) ≤ 8 → (IntKind.u8.wrap (2 ^ (ji19).toNat)) = ji21 := fun hle_ => by have h_ := hji21z hle_; rw [Int.one_mul] at h_; exact h_
                obtain ⟨y543, hy543⟩ : ∃ y_ : List Int, y_ = (t538.set ((ji16) : Int).toNat (Go.bits .xor .u8 (rd t538 (ji16)) (ji21))) := ⟨_, rfl⟩
                replace H : ((frame_ReadControl.f k y543).bind fun bt544 => (if bt544.2.2.2.2.2 = 0 then (none) else (if (!(bt544.1 == 0) || (!(bt544.2.1 == 0) || (!(bt544.2.2.1 == 0) || (!(bt544.2.2.2.1 == 0) || (!(bt544.2.2.2.2.1 == 0)))))) = true then (none) else (tocsinlaw06_FrameBits.j0 k a2 a1_0 a1_1 a1_2 a1_3 a1_4)))) = some r := by first | (rw [hy543]; with_reducible exact H) | (have H2_ := (Option.bind_some _ _).symm.trans H; rw [hy543]; with_reducible exact H2_) | (have H2_ := (Option.bind_some _ _).symm.trans H; with_reducible exact H2_) | with_reducible exact H | (rw [hy543]; exact H) | exact H
                have Ny543 := Aside0.mk hy543
                clear hy543
                replace H := Option.bind_eq_some_iff.mp H
                obtain ⟨⟨t544, t545, t546, t547, t548, t549⟩, A230, H⟩ := H
                replace H : (if t549 = 0 then (none) else (if (!(t544 == 0) || (!(t545 == 0) || (!(t546 == 0) || (!(t547 == 0) || (!(t548 == 0)))))) = true then (none) else (tocsinlaw06_FrameBits.j0 k a2 a1_0 a1_1 a1_2 a1_3 a1_4))) = some r := H
                have A23 := Aside0.mk A230
                clear A230
                by_cases c24 : t549 = 0
                · rw [if_pos c24] at H
                  exact absurd H (by simp)
                · rw [if_neg c24] at H
                  have c24b0 : (t549 == 0) = false := beq_eq_false_iff_ne.mpr c24
                  have c24b1 : (t549 != 0) = true := bne_iff_ne.mpr c24
                  by_cases c25 : (!(t544 == 0) || (!(t545 == 0) || (!(t546 == 0) || (!(t547 == 0) || (!(t548 == 0)))))) = true
                  · rw [if_pos c25] at H
                    exact absurd H (by simp)
                  · rw [if_neg c25] at H
                    have c25b0 : (!(t544 == 0) || (!(t545 == 0) || (!(t546 == 0) || (!(t547 == 0) || (!(t548 == 0)))))) = false := by simpa using c25
                    clear c25
                    have H' := Aside0.mk H
                    clear H
                    obtain ⟨Ao26, co26, eo26⟩ := Kd.R_slice HO540.out
                    subst eo26
                    have p542 : 0 ≤ ((ji16) : Int) := of_decide_eq_true (by first | (with_reducible assumption) | assumption)
                    have q542 : (ji16) < (t538.length : Int) := of_decide_eq_true (by first | (with_reducible assumption) | assumption)
                    obtain ⟨ad542, e542, hx542_0⟩ := Kd.at_int (Kd.R_reads' HO540.out).2.2 (ji16) p542 q542
                    cases e542
                    replace p542 := eq_true p542
                    replace q542 := eq_true q542
                    have p22 : 0 ≤ ((ji16) : Int) := of_decide_eq_true (by first | (with_reducible assumption) | assumption)
                    have q22 : ((ji16) : Int) < ((t538.length : Int) : Int) := of_decide_eq_true (by first | (with_reducible assumption) | assumption)
                    obtain ⟨go22, co22, eo22, gb22, gl22, cl22, HG22⟩ := Kd.R_form HO540.out (by omega)
                    (first | cases eo22 | (injection eo22 with ea_ en_ ec_; (first | subst ea_ | (injection ea_ with ea_; subst ea_)); subst ec_; clear en_))
                    have GB22 := Aside0.mk gb22
                    have GG22 := Aside0.mk HG22
                    clear gb22 gl22 HG22
                    (first | simp only [add_plain] at hx542_0 | skip)
                    obtain ⟨hx22_0, hf22_0⟩ := Kd.R_celln 0 HO540.out ((ji16) : Int) p22 q22
                    replace p22 := eq_true p22
                    replace q22 := eq_true q22
                    have HP27 := Kd.R_putg HO540.out ((ji16) : Int) (Go.bits .xor .u8 (rd t538 (ji16)) (ji21))
                    go_wp2_with (first | ((with_reducible refine gate_store (t := 5) (p := 44) rfl ?_); refine store_event (t := 5) (p := 44) (v := ?vo_w28) (w1 := (w13.setCell ⟨go22, ((ji16) : Int).toNat, none⟩ (.int .u8 (Go.bits .xor .u8 (rd t538 (ji16)) (ji21))))) ?hg ?ho ?hn ?hr ?_; (case ho => rfl); (case hg => rfl); (case hn => rfl); (case hr => first | (go_simp; done) | (go_simp; rfl)); intro w28 hw; have hg : w13.grownBy w28 (some go22) := (by rw [hw]; exact HP27.2); have hp_ : Kd.R (Kd.int .u8) 5 w28 w.heap.size (fun _ => True) (.slice (some ⟨go22, 0, none⟩) t538.length co26) y543 := (by rw [hw, Ny543.out]; exact HP27.1); clear HP27; have n0_ := Aside0.mk (blk_grown (g := gb535) (o := .cells #[.int .i64 a0_0, .int .i64 a0_1, .int .i64 a0_2, .int .u32 a0_3, .int .i64 a0_4] 24 (0, 0)) (by (with_reducible repeat (first | refine blk_drewN ?_ _ | refine blk_drew ?_ | refine blk_alloc ?_ _)); exact BK535.out) hg (Kd.R_ne HO540.out BK535.out (by decide))); have n1_ := Aside0.mk (blk_grown (g := gb536) (o := .cells #[.int .i64 a1_0, .int .i64 a1_1, .int .i64 a1_2, .string a1_3, .int .i64 a1_4] 36 (0, 0)) (by (with_reducible repeat (first | refine blk_drewN ?_ _ | refine blk_drew ?_ | refine blk_alloc ?_ _)); exact BK536.out) hg (Kd.R_ne HO540.out BK536.out (by decide))); have n2_ := Aside0.mk (hp_); have n3_ := Aside0.mk ((by rw [hw]; exact below_set (HB.out) GB22.out : Below w.heap.size w w28)); clear BK535; clear BK536; clear HO540; clear HB; have BK535 := n0_; have BK536 := n1_; have HO540 := n2_; have HB := n3_; clear n0_ n1_ n2_ n3_; clear hg hw hp_) | ((with_reducible refine gate_callee (f := 14) rfl ?_); refine goesL_ (some 47) rfl rfl Try.func14 (by kernel_rfl) rfl #[.slice (some ⟨go22, 0, none⟩) y543.length co26] rfl (by (try simp only [List.map_toArray, List.map_cons, List.map_nil]); first | done | (rw [show y543.length = t538.length from (Kd.R_reads' HO540.out).1.symm] <;> rfl) | rfl | (simp only [List.length_drop, List.length_take]; rfl)) ?_; (with_reducible refine (frame_ReadControl.calls k _ _ y543 t544 t545 t546 t547 t548 t549 _ ?side1 ?side2 A23.out).mono ?_); (case side1 => repeat (first | exact (Kd.R_reads' HO540.out).2.2 | (with_reducible refine Kd.C_alloc ?_ _) | (with_reducible refine Kd.C_drewN ?_ _) | (with_reducible refine Kd.C_drew ?_))); (case side2 => rw [show y543.length = t538.length from (Kd.R_reads' HO540.out).1.symm]; exact (Kd.R_reads' HO540.out).2.1); rintro e w29 ⟨rfl, hb⟩; refine ⟨_, rfl, ?_⟩; have n0_ := Aside0.mk (Kd.R_below (by (with_reducible repeat (first | apply Kd.R_alloc | apply Kd.R_drewN | apply Kd.R_drew)); exact HO540.out) hb); have n1_ := Aside0.mk (blk_below (g := gb535) (o := .cells #[.int .i64 a0_0, .int .i64 a0_1, .int .i64 a0_2, .int .u32 a0_3, .int .i64 a0_4] 24 (0, 0)) (by (with_reducible repeat (first | refine blk_drewN ?_ _ | refine blk_drew ?_ | refine blk_alloc ?_ _)); exact BK535.out) hb); have n2_ := Aside0.mk (blk_below (g := gb536) (o := .cells #[.int .i64 a1_0, .int .i64 a1_1, .int .i64 a1_2, .string a1_3, .int .i64 a1_4] 36 (0, 0)) (by (with_reducible repeat (first | refine blk_drewN ?_ _ | refine blk_drew ?_ | refine blk_alloc ?_ _)); exact BK536.out) hb); have n3_ := Aside0.mk (below_step (by repeat (first | (with_reducible first | exact HB.out | apply below_alloc | apply pw_below_drewN | apply below_drew1 | refine below_set ?_ GE535.out | refine below_set ?_ GE536.out) | exact HB.out)) hb); clear HO540; clear BK535; clear BK536; clear HB; have HO540 := n0_; have BK535 := n1_; have BK536 := n2_; have HB := n3_; clear n0_ n1_ n2_ n3_; (try clear hb); (try clear hb2); (try clear hk); (try clear hi)) | ((with_reducible refine gate_dst (N := 10) rfl ?_); refine box_event ?hg (N := 10) ?hd (cs := #[.int .i64 0, .int .i64 0, .int .i64 0, .int .u32 0, .int .i64 0]) (t := 24) ?hr ?_; (case hd => rfl); (case hg => rfl); (case hr => first | (go_simp; done) | (go_simp; rfl)); intro gb550 hg w30 hbox hb; have n0_ := Aside0.mk (Kd.R_below (by (with_reducible repeat (first | apply Kd.R_alloc | apply Kd.R_drewN | apply Kd.R_drew)); exact HO540.out) hb); have n1_ := Aside0.mk (blk_below (g := gb535) (o := .cells #[.int .i64 a0_0, .int .i64 a0_1, .int .i64 a0_2, .int .u32 a0_3, .int .i64 a0_4] 24 (0, 0)) (by (with_reducible repeat (first | refine blk_drewN ?_ _ | refine blk_drew ?_ | refine blk_alloc ?_ _)); exact BK535.out) hb); have n2_ := Aside0.mk (blk_below (g := gb536) (o := .cells #[.int .i64 a1_0, .int .i64 a1_1, .int .i64 a1_2, .string a1_3, .int .i64 a1_4] 36 (0, 0)) (by (with_reducible repeat (first | refine blk_drewN ?_ _ | refine blk_drew ?_ | refine blk_alloc ?_ _)); exact BK536.out) hb); have n3_ := Aside0.mk (below_step (by repeat (first | (with_reducible first | exact HB.out | apply below_alloc | apply pw_below_drewN | apply below_drew1 | refine below_set ?_ GE535.out | refine below_set ?_ GE536.out) | exact HB.out)) hb); have n4_ := Aside0.mk (hbox); have n5_ := Aside0.mk ((by rw [hg]; exact (below_size (by repeat (first | (with_reducible first | exact HB.out | apply below_alloc | apply pw_below_drewN | apply below_drew1 | refine below_set ?_ GE535.out | refine below_set ?_ GE536.out) | exact HB.out))) : w.heap.size ≤ gb550)); have n6_ := Aside0.mk ((by rw [hg]; exact (below_size (by repeat (first | (with_reducible first | exact HB.out | apply below_alloc | apply pw_below_drewN | apply below_drew1 | refine below_set ?_ GE535.out | refine below_set ?_ GE536.out) | exact HB.out))) : w.heap.size ≤ gb550)); have n7_ := Aside0.mk ((by rw [hg]; exact Nat.ne_of_lt (blk_lt (g := gb535) (o := .cells #[.int .i64 a0_0, .int .i64 a0_1, .int .i64 a0_2, .int .u32 a0_3, .int .i64 a0_4] 24 (0, 0)) (by (with_reducible repeat (first | refine blk_drewN ?_ _ | refine blk_drew ?_ | refine blk_alloc ?_ _)); exact BK535.out)) : gb535 ≠ gb550)); have n8_ := Aside0.mk ((by rw [hg]; exact Nat.ne_of_gt (blk_lt (g := gb535) (o := .cells #[.int .i64 a0_0, .int .i64 a0_1, .int .i64 a0_2, .int .u32 a0_3, .int .i64 a0_4] 24 (0, 0)) (by (with_reducible repeat (first | refine blk_drewN ?_ _ | refine blk_drew ?_ | refine blk_alloc ?_ _)); exact BK535.out)) : gb550 ≠ gb535)); have n9_ := Aside0.mk ((by rw [hg]; exact Nat.ne_of_lt (blk_lt (g := gb536) (o := .cells #[.int .i64 a1_0, .int .i64 a1_1, .int .i64 a1_2, .string a1_3, .int .i64 a1_4] 36 (0, 0)) (by (with_reducible repeat (first | refine blk_drewN ?_ _ | refine blk_drew ?_ | refine blk_alloc ?_ _)); exact BK536.out)) : gb536 ≠ gb550)); have n10_ := Aside0.mk ((by rw [hg]; exact Nat.ne_of_gt (blk_lt (g := gb536) (o := .cells #[.int .i64 a1_0, .int .i64 a1_1, .int .i64 a1_2, .string a1_3, .int .i64 a1_4] 36 (0, 0)) (by (with_reducible repeat (first | refine blk_drewN ?_ _ | refine blk_drew ?_ | refine blk_alloc ?_ _)); exact BK536.out)) : gb550 ≠ gb536)); clear HO540; clear BK535; clear BK536; clear HB; have HO540 := n0_; have BK535 := n1_; have BK536 := n2_; have HB := n3_; have BK550 := n4_; have GW550 := n5_; have GE550 := n6_; have NB535_550 := n7_; have NB550_535 := n8_; have NB536_550 := n9_; have NB550_536 := n10_; clear n0_ n1_ n2_ n3_ n4_ n5_ n6_ n7_ n8_ n9_ n10_; clear hb hbox hg; have hnb31 := NB550_535.out; have hnc31 := NB535_550.out; have hnb32 := NB550_536.out; have hnc32 := NB536_550.out; have hcz33_0 : World.cell? _ ⟨gb550, 0, none⟩ = some (.int .i64 0) := (blk_cell BK550.out 0).trans rfl; have hcz33_1 : World.cell? _ ⟨gb550, 1, none⟩ = some (.int .i64 0) := (blk_cell BK550.out 1).trans rfl; have hcz33_2 : World.cell? _ ⟨gb550, 2, none⟩ = some (.int .i64 0) := (blk_cell BK550.out 2).trans rfl; have hcz33_3 : World.cell? _ ⟨gb550, 3, none⟩ = some (.int .u32 0) := (blk_cell BK550.out 3).trans rfl; have hcz33_4 : World.cell? _ ⟨gb550, 4, none⟩ = some (.int .i64 0) := (blk_cell BK550.out 4).trans rfl; have hfz33_0 := blk_frozen BK550.out 0; have hfz33_1 := blk_frozen BK550.out 1; have hfz33_2 := blk_frozen BK550.out 2; have hfz33_3 := blk_frozen BK550.out 3; have hfz33_4 := blk_frozen BK550.out 4))
                    go_meet
                    case rel => exact ⟨_, H', ⟨by first | omega | exact Nat.le_refl _⟩, ⟨by (with_reducible repeat (first | refine blk_drewN ?_ _ | refine blk_drew ?_ | refine blk_alloc ?_ _)); refine blk_far ?_ NB535_550.out _; (with_reducible repeat (first | refine blk_drewN ?_ _ | refine blk_drew ?_ | refine blk_alloc ?_ _)); refine blk_far ?_ NB535_550.out _; (with_reducible repeat (first | refine blk_drewN ?_ _ | refine blk_drew ?_ | refine blk_alloc ?_ _)); refine blk_far ?_ NB535_550.out _; (with_reducible repeat (first | refine blk_drewN ?_ _ | refine blk_drew ?_ | refine blk_alloc ?_ _)); refine blk_far ?_ NB535_550.out _; (with_reducible repeat (first | refine blk_drewN ?_ _ | refine blk_drew ?_ | refine blk_alloc ?_ _)); refine blk_far ?_ NB535_550.out _; (with_reducible repeat (first | refine blk_drewN ?_ _ | refine blk_drew ?_ | refine blk_alloc ?_ _)); exact BK535.out⟩, ⟨by (with_reducible repeat (first | refine blk_drewN ?_ _ | refine blk_drew ?_ | refine blk_alloc ?_ _)); refine blk_far ?_ NB536_550.out _; (with_reducible repeat (first | refine blk_drewN ?_ _ | refine blk_drew ?_ | refine blk_alloc ?_ _)); refine blk_far ?_ NB536_550.out _; (with_reducible repeat (first | refine blk_drewN ?_ _ | refine blk_drew ?_ | refine blk_alloc ?_ _)); refine blk_far ?_ NB536_550.out _; (with_reducible repeat (first | refine blk_drewN ?_ _ | refine blk_drew ?_ | refine blk_alloc ?_ _)); refine blk_far ?_ NB536_550.out _; (with_reducible repeat (first | refine blk_drewN ?_ _ | refine blk_drew ?_ | refine blk_alloc ?_ _)); refine blk_far ?_ NB536_550.out _; (with_reducible repeat (first | refine blk_drewN ?_ _ | refine blk_drew ?_ | refine blk_alloc ?_ _)); exact BK536.out⟩, ⟨by repeat (first | (with_reducible first | exact HB.out | apply below_alloc | apply pw_below_drewN | apply below_drew1 | refine below_set ?_ GE535.out | refine below_set ?_ GE536.out | refine below_set ?_ GE550.out) | exact HB.out)⟩⟩
              · rw [if_neg c20] at H
                exact absurd H (by simp)
            · rw [if_neg c18] at H
              exact absurd H (by simp)
          · rw [if_neg c17] at H
            exact absurd H (by simp)
      · rw [if_neg c14] at H
        have c14b0 : (t541 == 0) = false := beq_eq_false_iff_ne.mpr c14
        have c14b1 : (t541 != 0) = true := bne_iff_ne.mpr c14
        (first | rw [c14b0] | (simp only [i64_w, i32_w]; rw [c14b0]) | skip)
        have H' := Aside0.mk H
        clear H
        go_wp2
        go_meet
        case rel => exact ⟨_, H', ⟨by first | omega | exact Nat.le_refl _⟩, ⟨by (with_reducible repeat (first | refine blk_drewN ?_ _ | refine blk_drew ?_ | refine blk_alloc ?_ _)); exact BK535.out⟩, ⟨by (with_reducible repeat (first | refine blk_drewN ?_ _ | refine blk_drew ?_ | refine blk_alloc ?_ _)); exact BK536.out⟩, ⟨by repeat (first | (with_reducible first | exact HB.out | apply below_alloc | apply pw_below_drewN | apply below_drew1 | refine below_set ?_ GE535.out | refine below_set ?_ GE536.out) | exact HB.out)⟩⟩
    case rest =>
      clear HC7
      try clear c1
      try clear c2
      try clear p2
      try clear q2
      try clear hx2
      try clear c3
      try clear c5
      try clear p5
      try clear q5
      try clear hx5
      try clear p6
      try clear c7
      try clear c11
      try clear c12
      try clear c14
      try clear c14b0
      try clear c14b1
      try clear c15
      try clear c15b0
      try clear c15b1
      try clear c17
      try clear c17b0
      try clear c18
      try clear c18b0
      try clear c20
      try clear c20b0
      try clear c20b1
      try clear p22
      try clear q22
      try clear hx22
      try clear hf22
      try clear c24
      try clear c24b0
      try clear c24b1
      try clear c25
      try clear c25b0
      try clear c31
      try clear c32
      try clear hcz12_0
      try clear hcz12_1
      try clear hcz12_2
      try clear hcz12_3
      try clear hcz12_4
      try clear hcz33_0
      try clear hcz33_1
      try clear hcz33_2
      try clear hcz33_3
      try clear hcz33_4
      try clear hfz12_0
      try clear hfz12_1
      try clear hfz12_2
      try clear hfz12_3
      try clear hfz12_4
      try clear hfz33_0
      try clear hfz33_1
      try clear hfz33_2
      try clear hfz33_3
      try clear hfz33_4
      try clear hx22_0
      try clear hx542_0
      try clear p22
      try clear p542
      try clear q22
      try clear q542
      obtain ⟨kq, HA, HJ6, BK535, BK536, HB⟩ := hcut
      cases kq with
      | zero => exact absurd HA.out (by simp [tocsinlaw06_FrameBits.j0])
      | succ kj6 =>
        have H := HA.out
        clear HA
        simp only [tocsinlaw06_FrameBits.j0] at H
        replace H := Option.bind_eq_some_iff.mp H
        obtain ⟨⟨t551, t554⟩, A340, H⟩ := H
        replace H : (if t554 = 0 then (if (IntKind.u64.wrap (wrap64 (8 * (t551.length : Int)))) = 0 then (none) else (if 0 ≤ (wrap64 (Int.tdiv (wrap64 (Int.tmod (IntKind.u64.wrap (a2)) (IntKind.u64.wrap (wrap64 (8 * (t551.length : Int)))))) 8)) then (if (wrap64 (Int.tdiv (wrap64 (Int.tmod (IntKind.u64.wrap (a2)) (IntKind.u64.wrap (wrap64 (8 * (t551.length : Int)))))) 8)) < (t551.length : Int) then (if 0 ≤ (IntKind.u64.wrap (Int.tmod (wrap64 (Int.tmod (IntKind.u64.wrap (a2)) (IntKind.u64.wrap (wrap64 (8 * (t551.length : Int)))))) 8)) then ((frame_ReadData.f kj6 (t551.set ((wrap64 (Int.tdiv (wrap64 (Int.tmod (IntKind.u64.wrap (a2)) (IntKind.u64.wrap (wrap64 (8 * (t551.length : Int)))))) 8)) : Int).toNat (Go.bits .xor .u8 (rd t551 (wrap64 (Int.tdiv (wrap64 (Int.tmod (IntKind.u64.wrap (a2)) (IntKind.u64.wrap (wrap64 (8 * (t551.length : Int)))))) 8))) (shl .u8 1 (IntKind.u64.wrap (Int.tmod (wrap64 (Int.tmod (IntKind.u64.wrap (a2)) (IntKind.u64.wrap (wrap64 (8 * (t551.length : Int)))))) 8)))))).bind fun bt557 => (if bt557.2.2.2.2.2 = 0 then (none) else (if (!(bt557.1 == 0) || (!(bt557.2.1 == 0) || (!(bt557.2.2.1 == 0) || (!(bt557.2.2.2.1.toList == ([] : List UInt8)) || (!(bt557.2.2.2.2.1 == 0)))))) = true then (none) else (some true)))) else (none)) else (none)) else (none))) else (some true)) = some r := H
        have A34 := Aside0.mk A340
        clear A340
        by_cases c35 : t554 = 0
        · rw [if_pos c35] at H
          have c35b0 : (t554 == 0) = true := beq_iff_eq.mpr c35
          have c35b1 : (t554 != 0) = false := bne_eq_false_iff_eq.mpr c35
          clear c35
          by_cases c36 : (IntKind.u64.wrap (wrap64 (8 * (t551.length : Int)))) = 0
          · rw [if_pos c36] at H
            exact absurd H (by simp)
          · rw [if_neg c36] at H
            have c36b0 : ((IntKind.u64.wrap (wrap64 (8 * (t551.length : Int)))) == 0) = false := beq_eq_false_iff_ne.mpr c36
            have c36b1 : ((IntKind.u64.wrap (wrap64 (8 * (t551.length : Int)))) != 0) = true := bne_iff_ne.mpr c36
            obtain ⟨ji37, hji37⟩ : ∃ j_ : Int, (wrap64 (Int.tdiv (wrap64 (Int.tmod (IntKind.u64.wrap (a2)) (IntKind.u64.wrap (wrap64 (8 * (t551.length : Int)))))) 8)) = j_ := ⟨_, rfl⟩
            replace H : (if 0 ≤ (ji37) then (if (ji37) < (t551.length : Int) then (if 0 ≤ (IntKind.u64.wrap (Int.tmod (wrap64 (Int.tmod (IntKind.u64.wrap (a2)) (IntKind.u64.wrap (wrap64 (8 * (t551.length : Int)))))) 8)) then ((frame_ReadData.f kj6 (t551.set ((ji37) : Int).toNat (Go.bits .xor .u8 (rd t551 (ji37)) (shl .u8 1 (IntKind.u64.wrap (Int.tmod (wrap64 (Int.tmod (IntKind.u64.wrap (a2)) (IntKind.u64.wrap (wrap64 (8 * (t551.length : Int)))))) 8)))))).bind fun bt557 => (if bt557.2.2.2.2.2 = 0 then (none) else (if (!(bt557.1 == 0) || (!(bt557.2.1 == 0) || (!(bt557.2.2.1 == 0) || (!(bt557.2.2.2.1.toList == ([] : List UInt8)) || (!(bt557.2.2.2.2.1 == 0)))))) = true then (none) else (some true)))) else (none)) else (none)) else (none)) = some r := by first | (rw [hji37] at H; exact H) | (simp only [hji37] at H ⊢; exact H)
            (try rw [hji37] at A34)
            have hji37w : (IntKind.i64.wrap (Int.tdiv (wrap64 (Int.tmod (IntKind.u64.wrap (a2)) (IntKind.u64.wrap (wrap64 (8 * (t551.length : Int)))))) 8)) = ji37 := (i64_w _).trans hji37
            by_cases c38 : 0 ≤ (ji37)
            · rw [if_pos c38] at H
              have c38b0 : decide (0 ≤ (ji37)) = true := decide_eq_true c38
              clear c38
              by_cases c39 : (ji37) < (t551.length : Int)
              · rw [if_pos c39] at H
                have c39b0 : decide ((ji37) < (t551.length : Int)) = true := decide_eq_true c39
                clear c39
                obtain ⟨ji40, hji40⟩ : ∃ j_ : Int, (IntKind.u64.wrap (Int.tmod (wrap64 (Int.tmod (IntKind.u64.wrap (a2)) (IntKind.u64.wrap (wrap64 (8 * (t551.length : Int)))))) 8)) = j_ := ⟨_, rfl⟩
                replace H : (if 0 ≤ (ji40) then ((frame_ReadData.f kj6 (t551.set ((ji37) : Int).toNat (Go.bits .xor .u8 (rd t551 (ji37)) (shl .u8 1 (ji40))))).bind fun bt557 => (if bt557.2.2.2.2.2 = 0 then (none) else (if (!(bt557.1 == 0) || (!(bt557.2.1 == 0) || (!(bt557.2.2.1 == 0) || (!(bt557.2.2.2.1.toList == ([] : List UInt8)) || (!(bt557.2.2.2.2.1 == 0)))))) = true then (none) else (some true)))) else (none)) = some r := by first | (rw [hji40] at H; exact H) | (simp only [hji40] at H ⊢; exact H)
                (try rw [hji40] at A34)
                by_cases c41 : 0 ≤ (ji40)
                · rw [if_pos c41] at H
                  have c41b0 := eq_true c41
                  have c41b1 : decide (0 ≤ (ji40)) = true := decide_eq_true c41
                  clear c41
                  obtain ⟨ji42, hji42⟩ : ∃ j_ : Int, (shl .u8 1 (ji40)) = j_ := ⟨_, rfl⟩
                  replace H : ((frame_ReadData.f kj6 (t551.set ((ji37) : Int).toNat (Go.bits .xor .u8 (rd t551 (ji37)) (ji42)))).bind fun bt557 => (if bt557.2.2.2.2.2 = 0 then (none) else (if (!(bt557.1 == 0) || (!(bt557.2.1 == 0) || (!(bt557.2.2.1 == 0) || (!(bt557.2.2.2.1.toList == ([] : List UInt8)) || (!(bt557.2.2.2.2.1 == 0)))))) = true then (none) else (some true)))) = some r := by first | (rw [hji42] at H; exact H) | (simp only [hji42] at H ⊢; exact H)
                  (try rw [hji42] at A34)
                  have hji42_ : (IntKind.u8.wrap (1 * 2 ^ min (ji40).toNat 8)) = ji42 := hji42
                  have hji42z : (ji40) ≤ 8 → (IntKind.u8.wrap (1 * 2 ^ (ji40).toNat)) = ji42 := shl_small hji42
                  have hji42u : (IntKind.u8.wrap (2 ^ min (ji40).toNat 8)) = ji42 := by have h_ := hji42_; rw [Int.one_mul] at h_; exact h_
                  have hji42v : (ji40) ≤ 8 → (IntKind.u8.wrap (2 ^ (ji40).toNat)) = ji42 := fun hle_ => by have h_ := hji42z hle_; rw [Int.one_mul] at h_; exact h_
                  obtain ⟨y556, hy556⟩ : ∃ y_ : List Int, y_ = (t551.set ((ji37) : Int).toNat (Go.bits .xor .u8 (rd t551 (ji37)) (ji42))) := ⟨_, rfl⟩
                  replace H : ((frame_ReadData.f kj6 y556).bind fun bt557 => (if bt557.2.2.2.2.2 = 0 then (none) else (if (!(bt557.1 == 0) || (!(bt557.2.1 == 0) || (!(bt557.2.2.1 == 0) || (!(bt557.2.2.2.1.toList == ([] : List UInt8)) || (!(bt557.2.2.2.2.1 == 0)))))) = true then (none) else (some true)))) = some r := by first | (rw [hy556]; with_reducible exact H) | (have H2_ := (Option.bind_some _ _).symm.trans H; rw [hy556]; with_reducible exact H2_) | (have H2_ := (Option.bind_some _ _).symm.trans H; with_reducible exact H2_) | with_reducible exact H | (rw [hy556]; exact H) | exact H
                  have Ny556 := Aside0.mk hy556
                  clear hy556
                  replace H := Option.bind_eq_some_iff.mp H
                  obtain ⟨⟨t557, t558, t559, t560, t561, t562⟩, A440, H⟩ := H
                  replace H : (if t562 = 0 then (none) else (if (!(t557 == 0) || (!(t558 == 0) || (!(t559 == 0) || (!(t560.toList == ([] : List UInt8)) || (!(t561 == 0)))))) = true then (none) else (some true))) = some r := H
                  have A44 := Aside0.mk A440
                  clear A440
                  by_cases c45 : t562 = 0
                  · rw [if_pos c45] at H
                    exact absurd H (by simp)
                  · rw [if_neg c45] at H
                    have c45b0 : (t562 == 0) = false := beq_eq_false_iff_ne.mpr c45
                    have c45b1 : (t562 != 0) = true := bne_iff_ne.mpr c45
                    by_cases c46 : (!(t557 == 0) || (!(t558 == 0) || (!(t559 == 0) || (!(t560.toList == ([] : List UInt8)) || (!(t561 == 0)))))) = true
                    · rw [if_pos c46] at H
                      exact absurd H (by simp)
                    · rw [if_neg c46] at H
                      have c46b0 : (!(t557 == 0) || (!(t558 == 0) || (!(t559 == 0) || (!(t560.toList == ([] : List UInt8)) || (!(t561 == 0)))))) = false := by simpa using c46
                      have c46b9 := c46b0
                      simp at c46b9
                      clear c46
                      obtain rfl := Option.some.inj H
                      have hnb47 := NB536_535.out
                      have hnc47 := NB535_536.out
                      have hcz48_0 : World.cell? _ ⟨gb536, 0, none⟩ = some (.int .i64 a1_0) := (blk_cell BK536.out 0).trans rfl
                      have hcz48_1 : World.cell? _ ⟨gb536, 1, none⟩ = some (.int .i64 a1_1) := (blk_cell BK536.out 1).trans rfl
                      have hcz48_2 : World.cell? _ ⟨gb536, 2, none⟩ = some (.int .i64 a1_2) := (blk_cell BK536.out 2).trans rfl
                      have hcz48_3 : World.cell? _ ⟨gb536, 3, none⟩ = some (.string a1_3) := (blk_cell BK536.out 3).trans rfl
                      have hcz48_4 : World.cell? _ ⟨gb536, 4, none⟩ = some (.int .i64 a1_4) := (blk_cell BK536.out 4).trans rfl
                      have hfz48_0 := blk_frozen BK536.out 0
                      have hfz48_1 := blk_frozen BK536.out 1
                      have hfz48_2 := blk_frozen BK536.out 2
                      have hfz48_3 := blk_frozen BK536.out 3
                      have hfz48_4 := blk_frozen BK536.out 4
                      go_wp2_with (first | ((with_reducible refine gate_callee (f := 17) rfl ?_); refine goesL_ (some 59) rfl rfl Try.func17 (by kernel_rfl) rfl #[.agg #[.int .i64 a1_0, .int .i64 a1_1, .int .i64 a1_2, .string a1_3, .int .i64 a1_4]] rfl (by (try simp only [List.map_toArray, List.map_cons, List.map_nil]); first | done | rfl | (simp only [List.length_drop, List.length_take]; rfl)) ?_; (with_reducible refine (frame_Data.calls kj6 a1_0 a1_1 a1_2 a1_3 a1_4 t551 t554 _ A34.out).mono ?_); rintro e w49 ⟨v552, rfl, ho0, hb⟩; refine ⟨_, rfl, ?_⟩; have n0_ := Aside0.mk (Kd.R_lower ho0 (below_size (by repeat (first | (with_reducible first | exact HB.out | apply below_alloc | apply pw_below_drewN | apply below_drew1 | refine below_set ?_ GE535.out | refine below_set ?_ GE536.out) | exact HB.out)))); have n1_ := Aside0.mk (blk_below (g := gb535) (o := .cells #[.int .i64 a0_0, .int .i64 a0_1, .int .i64 a0_2, .int .u32 a0_3, .int .i64 a0_4] 24 (0, 0)) (by (with_reducible repeat (first | refine blk_drewN ?_ _ | refine blk_drew ?_ | refine blk_alloc ?_ _)); exact BK535.out) hb); have n2_ := Aside0.mk (blk_below (g := gb536) (o := .cells #[.int .i64 a1_0, .int .i64 a1_1, .int .i64 a1_2, .string a1_3, .int .i64 a1_4] 36 (0, 0)) (by (with_reducible repeat (first | refine blk_drewN ?_ _ | refine blk_drew ?_ | refine blk_alloc ?_ _)); exact BK536.out) hb); have n3_ := Aside0.mk (below_step (by repeat (first | (with_reducible first | exact HB.out | apply below_alloc | apply pw_below_drewN | apply below_drew1 | refine below_set ?_ GE535.out | refine below_set ?_ GE536.out) | exact HB.out)) hb); clear BK535; clear BK536; clear HB; have HO553 := n0_; have BK535 := n1_; have BK536 := n2_; have HB := n3_; clear n0_ n1_ n2_ n3_; (try clear hb); (try clear hb2); (try clear hk); (try clear hi); (try clear ho0); obtain ⟨Ao50, co50, eo50⟩ := Kd.R_slice HO553.out; subst eo50; have p555 : 0 ≤ ((ji37) : Int) := of_decide_eq_true (by first | (with_reducible assumption) | assumption); have q555 : (ji37) < (t551.length : Int) := of_decide_eq_true (by first | (with_reducible assumption) | assumption); obtain ⟨ad555, e555, hx555_0⟩ := Kd.at_int (Kd.R_reads' HO553.out).2.2 (ji37) p555 q555; cases e555; replace p555 := eq_true p555; replace q555 := eq_true q555; have p43 : 0 ≤ ((ji37) : Int) := of_decide_eq_true (by first | (with_reducible assumption) | assumption); have q43 : ((ji37) : Int) < ((t551.length : Int) : Int) := of_decide_eq_true (by first | (with_reducible assumption) | assumption); obtain ⟨go43, co43, eo43, gb43, gl43, cl43, HG43⟩ := Kd.R_form HO553.out (by omega); (first | cases eo43 | (injection eo43 with ea_ en_ ec_; (first | subst ea_ | (injection ea_ with ea_; subst ea_)); subst ec_; clear en_)); have GB43 := Aside0.mk gb43; have GG43 := Aside0.mk HG43; clear gb43 gl43 HG43; (first | simp only [add_plain] at hx555_0 | skip); obtain ⟨hx43_0, hf43_0⟩ := Kd.R_celln 0 HO553.out ((ji37) : Int) p43 q43; replace p43 := eq_true p43; replace q43 := eq_true q43; obtain ⟨hy51_, hz51_⟩ := Kd.R_celln 0 HO553.out ((ji37) : Int) (of_decide_eq_true (by first | (with_reducible assumption) | assumption)) (of_decide_eq_true (by first | (with_reducible assumption) | assumption)); have HP51 := Kd.R_putg HO553.out ((ji37) : Int) (Go.bits .xor .u8 (rd t551 (ji37)) (ji42))) | ((with_reducible refine gate_store (t := 5) (p := 82) rfl ?_); refine store_event (t := 5) (p := 82) (v := ?vo_w52) (w1 := (w49.setCell ⟨go43, ((ji37) : Int).toNat, none⟩ (.int .u8 (Go.bits .xor .u8 (rd t551 (ji37)) (ji42))))) ?hg ?ho ?hn ?hr ?_; (case ho => rfl); (case hg => rfl); (case hn => rfl); (case hr => first | (go_simp; done) | (go_simp; rfl)); intro w52 hw; have hg : w49.grownBy w52 (some go43) := (by rw [hw]; exact HP51.2); have hp_ : Kd.R (Kd.int .u8) 5 w52 w.heap.size (fun _ => True) (.slice (some ⟨go43, 0, none⟩) t551.length co50) y556 := (by rw [hw, Ny556.out]; exact HP51.1); clear HP51; have n0_ := Aside0.mk (blk_grown (g := gb535) (o := .cells #[.int .i64 a0_0, .int .i64 a0_1, .int .i64 a0_2, .int .u32 a0_3, .int .i64 a0_4] 24 (0, 0)) (by (with_reducible repeat (first | refine blk_drewN ?_ _ | refine blk_drew ?_ | refine blk_alloc ?_ _)); exact BK535.out) hg (Kd.R_ne HO553.out BK535.out (by decide))); have n1_ := Aside0.mk (blk_grown (g := gb536) (o := .cells #[.int .i64 a1_0, .int .i64 a1_1, .int .i64 a1_2, .string a1_3, .int .i64 a1_4] 36 (0, 0)) (by (with_reducible repeat (first | refine blk_drewN ?_ _ | refine blk_drew ?_ | refine blk_alloc ?_ _)); exact BK536.out) hg (Kd.R_ne HO553.out BK536.out (by decide))); have n2_ := Aside0.mk (hp_); have n3_ := Aside0.mk ((by rw [hw]; exact below_set (HB.out) GB43.out : Below w.heap.size w w52)); clear BK535; clear BK536; clear HO553; clear HB; have BK535 := n0_; have BK536 := n1_; have HO553 := n2_; have HB := n3_; clear n0_ n1_ n2_ n3_; clear hg hw hp_) | ((with_reducible refine gate_callee (f := 19) rfl ?_); refine goesL_ (some 85) rfl rfl Try.func19 (by kernel_rfl) rfl #[.slice (some ⟨go43, 0, none⟩) y556.length co50] rfl (by (try simp only [List.map_toArray, List.map_cons, List.map_nil]); first | done | (rw [show y556.length = t551.length from (Kd.R_reads' HO553.out).1.symm] <;> rfl) | rfl | (simp only [List.length_drop, List.length_take]; rfl)) ?_; (with_reducible refine (frame_ReadData.calls kj6 _ _ y556 t557 t558 t559 t560 t561 t562 _ ?side1 ?side2 A44.out).mono ?_); (case side1 => repeat (first | exact (Kd.R_reads' HO553.out).2.2 | (with_reducible refine Kd.C_alloc ?_ _) | (with_reducible refine Kd.C_drewN ?_ _) | (with_reducible refine Kd.C_drew ?_))); (case side2 => rw [show y556.length = t551.length from (Kd.R_reads' HO553.out).1.symm]; exact (Kd.R_reads' HO553.out).2.1); rintro e w53 ⟨rfl, hb⟩; refine ⟨_, rfl, ?_⟩; have n0_ := Aside0.mk (Kd.R_below (by (with_reducible repeat (first | apply Kd.R_alloc | apply Kd.R_drewN | apply Kd.R_drew)); exact HO553.out) hb); have n1_ := Aside0.mk (blk_below (g := gb535) (o := .cells #[.int .i64 a0_0, .int .i64 a0_1, .int .i64 a0_2, .int .u32 a0_3, .int .i64 a0_4] 24 (0, 0)) (by (with_reducible repeat (first | refine blk_drewN ?_ _ | refine blk_drew ?_ | refine blk_alloc ?_ _)); exact BK535.out) hb); have n2_ := Aside0.mk (blk_below (g := gb536) (o := .cells #[.int .i64 a1_0, .int .i64 a1_1, .int .i64 a1_2, .string a1_3, .int .i64 a1_4] 36 (0, 0)) (by (with_reducible repeat (first | refine blk_drewN ?_ _ | refine blk_drew ?_ | refine blk_alloc ?_ _)); exact BK536.out) hb); have n3_ := Aside0.mk (below_step (by repeat (first | (with_reducible first | exact HB.out | apply below_alloc | apply pw_below_drewN | apply below_drew1 | refine below_set ?_ GE535.out | refine below_set ?_ GE536.out) | exact HB.out)) hb); clear HO553; clear BK535; clear BK536; clear HB; have HO553 := n0_; have BK535 := n1_; have BK536 := n2_; have HB := n3_; clear n0_ n1_ n2_ n3_; (try clear hb); (try clear hb2); (try clear hk); (try clear hi)) | ((with_reducible refine gate_dst (N := 15) rfl ?_); refine box_event ?hg (N := 15) ?hd (cs := #[.int .i64 0, .int .i64 0, .int .i64 0, .string (⟨#[]⟩ : ByteArray), .int .i64 0]) (t := 36) ?hr ?_; (case hd => rfl); (case hg => rfl); (case hr => first | (go_simp; done) | (go_simp; rfl)); intro gb563 hg w54 hbox hb; have n0_ := Aside0.mk (Kd.R_below (by (with_reducible repeat (first | apply Kd.R_alloc | apply Kd.R_drewN | apply Kd.R_drew)); exact HO553.out) hb); have n1_ := Aside0.mk (blk_below (g := gb535) (o := .cells #[.int .i64 a0_0, .int .i64 a0_1, .int .i64 a0_2, .int .u32 a0_3, .int .i64 a0_4] 24 (0, 0)) (by (with_reducible repeat (first | refine blk_drewN ?_ _ | refine blk_drew ?_ | refine blk_alloc ?_ _)); exact BK535.out) hb); have n2_ := Aside0.mk (blk_below (g := gb536) (o := .cells #[.int .i64 a1_0, .int .i64 a1_1, .int .i64 a1_2, .string a1_3, .int .i64 a1_4] 36 (0, 0)) (by (with_reducible repeat (first | refine blk_drewN ?_ _ | refine blk_drew ?_ | refine blk_alloc ?_ _)); exact BK536.out) hb); have n3_ := Aside0.mk (below_step (by repeat (first | (with_reducible first | exact HB.out | apply below_alloc | apply pw_below_drewN | apply below_drew1 | refine below_set ?_ GE535.out | refine below_set ?_ GE536.out) | exact HB.out)) hb); have n4_ := Aside0.mk (hbox); have n5_ := Aside0.mk ((by rw [hg]; exact (below_size (by repeat (first | (with_reducible first | exact HB.out | apply below_alloc | apply pw_below_drewN | apply below_drew1 | refine below_set ?_ GE535.out | refine below_set ?_ GE536.out) | exact HB.out))) : w.heap.size ≤ gb563)); have n6_ := Aside0.mk ((by rw [hg]; exact (below_size (by repeat (first | (with_reducible first | exact HB.out | apply below_alloc | apply pw_below_drewN | apply below_drew1 | refine below_set ?_ GE535.out | refine below_set ?_ GE536.out) | exact HB.out))) : w.heap.size ≤ gb563)); have n7_ := Aside0.mk ((by rw [hg]; exact Nat.ne_of_lt (blk_lt (g := gb535) (o := .cells #[.int .i64 a0_0, .int .i64 a0_1, .int .i64 a0_2, .int .u32 a0_3, .int .i64 a0_4] 24 (0, 0)) (by (with_reducible repeat (first | refine blk_drewN ?_ _ | refine blk_drew ?_ | refine blk_alloc ?_ _)); exact BK535.out)) : gb535 ≠ gb563)); have n8_ := Aside0.mk ((by rw [hg]; exact Nat.ne_of_gt (blk_lt (g := gb535) (o := .cells #[.int .i64 a0_0, .int .i64 a0_1, .int .i64 a0_2, .int .u32 a0_3, .int .i64 a0_4] 24 (0, 0)) (by (with_reducible repeat (first | refine blk_drewN ?_ _ | refine blk_drew ?_ | refine blk_alloc ?_ _)); exact BK535.out)) : gb563 ≠ gb535)); have n9_ := Aside0.mk ((by rw [hg]; exact Nat.ne_of_lt (blk_lt (g := gb536) (o := .cells #[.int .i64 a1_0, .int .i64 a1_1, .int .i64 a1_2, .string a1_3, .int .i64 a1_4] 36 (0, 0)) (by (with_reducible repeat (first | refine blk_drewN ?_ _ | refine blk_drew ?_ | refine blk_alloc ?_ _)); exact BK536.out)) : gb536 ≠ gb563)); have n10_ := Aside0.mk ((by rw [hg]; exact Nat.ne_of_gt (blk_lt (g := gb536) (o := .cells #[.int .i64 a1_0, .int .i64 a1_1, .int .i64 a1_2, .string a1_3, .int .i64 a1_4] 36 (0, 0)) (by (with_reducible repeat (first | refine blk_drewN ?_ _ | refine blk_drew ?_ | refine blk_alloc ?_ _)); exact BK536.out)) : gb563 ≠ gb536)); clear HO553; clear BK535; clear BK536; clear HB; have HO553 := n0_; have BK535 := n1_; have BK536 := n2_; have HB := n3_; have BK563 := n4_; have GW563 := n5_; have GE563 := n6_; have NB535_563 := n7_; have NB563_535 := n8_; have NB536_563 := n9_; have NB563_536 := n10_; clear n0_ n1_ n2_ n3_ n4_ n5_ n6_ n7_ n8_ n9_ n10_; clear hb hbox hg; have hnb55 := NB563_535.out; have hnc55 := NB535_563.out; have hnb56 := NB563_536.out; have hnc56 := NB536_563.out; have hcz57_0 : World.cell? _ ⟨gb563, 0, none⟩ = some (.int .i64 0) := (blk_cell BK563.out 0).trans rfl; have hcz57_1 : World.cell? _ ⟨gb563, 1, none⟩ = some (.int .i64 0) := (blk_cell BK563.out 1).trans rfl; have hcz57_2 : World.cell? _ ⟨gb563, 2, none⟩ = some (.int .i64 0) := (blk_cell BK563.out 2).trans rfl; have hcz57_3 : World.cell? _ ⟨gb563, 3, none⟩ = some (.string (⟨#[]⟩ : ByteArray)) := (blk_cell BK563.out 3).trans rfl; have hcz57_4 : World.cell? _ ⟨gb563, 4, none⟩ = some (.int .i64 0) := (blk_cell BK563.out 4).trans rfl; have hfz57_0 := blk_frozen BK563.out 0; have hfz57_1 := blk_frozen BK563.out 1; have hfz57_2 := blk_frozen BK563.out 2; have hfz57_3 := blk_frozen BK563.out 3; have hfz57_4 := blk_frozen BK563.out 4))
                      go_ret
                      exact ⟨by first | rfl | (simp [errW_none, errW_some] <;> rfl) | (simp only [← hji37, ← hji40, ← hji42]; first | rfl | (simp [errW_none, errW_some] <;> rfl)) | (simp [*, errW_none, errW_some] <;> rfl), by repeat (first | (with_reducible first | exact HB.out | apply below_alloc | apply pw_below_drewN | apply below_drew1 | refine below_set ?_ GE535.out | refine below_set ?_ GE536.out | refine below_set ?_ GE563.out) | exact HB.out)⟩
                · rw [if_neg c41] at H
                  exact absurd H (by simp)
              · rw [if_neg c39] at H
                exact absurd H (by simp)
            · rw [if_neg c38] at H
              exact absurd H (by simp)
        · rw [if_neg c35] at H
          have c35b0 : (t554 == 0) = false := beq_eq_false_iff_ne.mpr c35
          have c35b1 : (t554 != 0) = true := bne_iff_ne.mpr c35
          obtain rfl := Option.some.inj H
          have hnb58 := NB536_535.out
          have hnc58 := NB535_536.out
          have hcz59_0 : World.cell? _ ⟨gb536, 0, none⟩ = some (.int .i64 a1_0) := (blk_cell BK536.out 0).trans rfl
          have hcz59_1 : World.cell? _ ⟨gb536, 1, none⟩ = some (.int .i64 a1_1) := (blk_cell BK536.out 1).trans rfl
          have hcz59_2 : World.cell? _ ⟨gb536, 2, none⟩ = some (.int .i64 a1_2) := (blk_cell BK536.out 2).trans rfl
          have hcz59_3 : World.cell? _ ⟨gb536, 3, none⟩ = some (.string a1_3) := (blk_cell BK536.out 3).trans rfl
          have hcz59_4 : World.cell? _ ⟨gb536, 4, none⟩ = some (.int .i64 a1_4) := (blk_cell BK536.out 4).trans rfl
          have hfz59_0 := blk_frozen BK536.out 0
          have hfz59_1 := blk_frozen BK536.out 1
          have hfz59_2 := blk_frozen BK536.out 2
          have hfz59_3 := blk_frozen BK536.out 3
          have hfz59_4 := blk_frozen BK536.out 4
          go_wp2_with (first | ((with_reducible refine gate_callee (f := 17) rfl ?_); refine goesL_ (some 59) rfl rfl Try.func17 (by kernel_rfl) rfl #[.agg #[.int .i64 a1_0, .int .i64 a1_1, .int .i64 a1_2, .string a1_3, .int .i64 a1_4]] rfl (by (try simp only [List.map_toArray, List.map_cons, List.map_nil]); first | done | rfl | (simp only [List.length_drop, List.length_take]; rfl)) ?_; (with_reducible refine (frame_Data.calls kj6 a1_0 a1_1 a1_2 a1_3 a1_4 t551 t554 _ A34.out).mono ?_); rintro e w60 ⟨v552, rfl, ho0, hb⟩; refine ⟨_, rfl, ?_⟩; have n0_ := Aside0.mk (Kd.R_lower ho0 (below_size (by repeat (first | (with_reducible first | exact HB.out | apply below_alloc | apply pw_below_drewN | apply below_drew1 | refine below_set ?_ GE535.out | refine below_set ?_ GE536.out) | exact HB.out)))); have n1_ := Aside0.mk (blk_below (g := gb535) (o := .cells #[.int .i64 a0_0, .int .i64 a0_1, .int .i64 a0_2, .int .u32 a0_3, .int .i64 a0_4] 24 (0, 0)) (by (with_reducible repeat (first | refine blk_drewN ?_ _ | refine blk_drew ?_ | refine blk_alloc ?_ _)); exact BK535.out) hb); have n2_ := Aside0.mk (blk_below (g := gb536) (o := .cells #[.int .i64 a1_0, .int .i64 a1_1, .int .i64 a1_2, .string a1_3, .int .i64 a1_4] 36 (0, 0)) (by (with_reducible repeat (first | refine blk_drewN ?_ _ | refine blk_drew ?_ | refine blk_alloc ?_ _)); exact BK536.out) hb); have n3_ := Aside0.mk (below_step (by repeat (first | (with_reducible first | exact HB.out | apply below_alloc | apply pw_below_drewN | apply below_drew1 | refine below_set ?_ GE535.out | refine below_set ?_ GE536.out) | exact HB.out)) hb); clear BK535; clear BK536; clear HB; have HO553 := n0_; have BK535 := n1_; have BK536 := n2_; have HB := n3_; clear n0_ n1_ n2_ n3_; (try clear hb); (try clear hb2); (try clear hk); (try clear hi); (try clear ho0)))
          go_ret
          exact ⟨by first | rfl | (simp [errW_none, errW_some] <;> rfl) | (simp [*, errW_none, errW_some] <;> rfl), by repeat (first | (with_reducible first | exact HB.out | apply below_alloc | apply pw_below_drewN | apply below_drew1 | refine below_set ?_ GE535.out | refine below_set ?_ GE536.out) | exact HB.out)⟩
  · replace c5 := Bool.eq_false_iff.mpr c5
    subst c5
    have H1 : (none) = some r := by rw [if_neg (show ¬ (false = true) by decide)] at H; exact H
    clear H
    have H := H1
    clear H1
    exact absurd H (by simp)

def tocsinlaw06_FrameBits.Pure : Prop := ∀ (a0_0 : Int) (a0_1 : Int) (a0_2 : Int) (a0_3 : Int) (a0_4 : Int) (a1_0 : Int) (a1_1 : Int) (a1_2 : Int) (a1_3 : ByteArray) (a1_4 : Int) (a2 : Int), ((Lit.int .i64 a0_0).wf = true) → ((Lit.int .i64 a0_1).wf = true) → ((Lit.int .i64 a0_2).wf = true) → ((Lit.int .u32 a0_3).wf = true) → ((Lit.int .i64 a0_4).wf = true) → ((Lit.int .i64 a1_0).wf = true) → ((Lit.int .i64 a1_1).wf = true) → ((Lit.int .i64 a1_2).wf = true) → (a1_3.size ≤ 140737488351232) → ((Lit.int .i64 a1_4).wf = true) → ((Lit.int .i64 a2).wf = true) → ∃ k, tocsinlaw06_FrameBits.f k a0_0 a0_1 a0_2 a0_3 a0_4 a1_0 a1_1 a1_2 a1_3 a1_4 a2 = some true

end Go.Proofs.Ytgeheedfmdlefaa.PF
