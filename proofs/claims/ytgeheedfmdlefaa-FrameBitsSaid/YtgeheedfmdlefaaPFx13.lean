-- Written by a program for this claim.
import Derived.Test.YtgeheedfmdlefaaPFx0
import Derived.Test.YtgeheedfmdlefaaPFx7
import Derived.Test.YtgeheedfmdlefaaPFx8
import Derived.Test.YtgeheedfmdlefaaPFx9
import Derived.Test.YtgeheedfmdlefaaPFx11
namespace Go.Proofs.Ytgeheedfmdlefaa.PF
open Go.RowKit Go.Proofs.YtgeheedfmdlefaaW.PrintWords Go.Proofs.YtgeheedfmdlefaaW.PrintLast Go.Proofs.YtgeheedfmdlefaaW.PrintMore
attribute [local go_sem] max2_int min2_int max_two min_two max_three min_three max_four min_four   -- for this text's walks alone
set_option linter.unusedVariables false
set_option linter.unusedSimpArgs false

/-! ### frame_ReadData: function 19 -/
mutual
def frame_ReadData.j0 : Nat → List Int → Bool → Option (Int × Int × Int × ByteArray × Int × Int)
  | 0, _, _ => none
  | k + 1, x0, x9 => if x9 = true then (some (0, 0, 0, (⟨#[]⟩ : ByteArray), 0, 2)) else ((frame_open.f k x0).bind fun t206 => (if t206 = true then (if 8 ≤ (x0.length : Int) then ((frame_get.f k ((x0.take 8).drop 4)).bind fun t211 => (if 10 ≤ (x0.length : Int) then ((frame_get.f k ((x0.take 10).drop 8)).bind fun t216 => (if t211 > 2147483647 then (frame_ReadData.j1 k x0 t211 (wrap64 (t216)) true) else (frame_ReadData.j1 k x0 t211 (wrap64 (t216)) (decide ((wrap64 (t216)) > (wrap64 ((wrap64 ((x0.length : Int) - 10)) - 4))))))) else (none))) else (none)) else (some (0, 0, 0, (⟨#[]⟩ : ByteArray), 0, 8))))
def frame_ReadData.j1 : Nat → List Int → Int → Int → Bool → Option (Int × Int × Int × ByteArray × Int × Int)
  | 0, _, _, _, _ => none
  | k + 1, x0, x4, x5, x45 => if x45 = true then (some (0, 0, 0, (⟨#[]⟩ : ByteArray), 0, 2)) else (if 0 ≤ (wrap64 (10 + x5)) then (if (wrap64 (10 + x5)) ≤ (wrap64 ((x0.length : Int) - 4)) then (if (wrap64 ((x0.length : Int) - 4)) ≤ (x0.length : Int) then ((some ((x0.take ((wrap64 ((x0.length : Int) - 4)) : Int).toNat).drop ((wrap64 (10 + x5)) : Int).toNat : List Int)).bind fun y217 => (frame_ReadData.l0 k x0 x4 x5 y217 (y217.length : Int) 0)) else (none)) else (none)) else (none))
def frame_ReadData.l0 : Nat → List Int → Int → Int → List Int → Int → Int → Option (Int × Int × Int × ByteArray × Int × Int)
  | 0, _, _, _, _, _, _ => none
  | k + 1, x0, x4, x5, x53, x54, x55 => if x55 < x54 then (if 0 ≤ x55 then (if x55 < (x53.length : Int) then (if (rd x53 x55) = 0 then (frame_ReadData.l0 k x0 x4 x5 x53 x54 (wrap64 (x55 + 1))) else (some (0, 0, 0, (⟨#[]⟩ : ByteArray), 0, 2))) else (none)) else (none)) else (if 2 < (x0.length : Int) then (if 3 < (x0.length : Int) then (if 10 ≤ (wrap64 (10 + x5)) then (if (wrap64 (10 + x5)) ≤ (x0.length : Int) then ((some ((x0.take ((wrap64 (10 + x5)) : Int).toNat).drop 10 : List Int)).bind fun y224 => ((frame_rightData.f (wrap64 (rd x0 2)) (wrap64 (rd x0 3)) (wrap64 (x4)) (strOfNums y224) (x0.length : Int)).bind fun t229 => (if t229 = true then (some (wrap64 (rd x0 2), wrap64 (rd x0 3), wrap64 (x4), strOfNums y224, (x0.length : Int), 0)) else (some (0, 0, 0, (⟨#[]⟩ : ByteArray), 0, 2))))) else (none)) else (none)) else (none)) else (none))
end
def frame_ReadData.f (k : Nat) (l0 : List Int) : Option (Int × Int × Int × ByteArray × Int × Int) := if (l0.length : Int) < 64 then (frame_ReadData.j0 k l0 true) else (if (l0.length : Int) > 1518 then (frame_ReadData.j0 k l0 true) else ((frame_Which.f k l0).bind fun t205 => (frame_ReadData.j0 k l0 (t205 != 2))))
theorem frame_ReadData.mono_l : ∀ k, (∀ y0 y1, LeO (frame_ReadData.j0 k y0 y1) (frame_ReadData.j0 (k + 1) y0 y1)) ∧ (∀ y0 y1 y2 y3, LeO (frame_ReadData.j1 k y0 y1 y2 y3) (frame_ReadData.j1 (k + 1) y0 y1 y2 y3)) ∧ (∀ y0 y1 y2 y3 y4 y5, LeO (frame_ReadData.l0 k y0 y1 y2 y3 y4 y5) (frame_ReadData.l0 (k + 1) y0 y1 y2 y3 y4 y5))
  | 0 => ⟨fun _ _ r h => by simp [frame_ReadData.j0] at h, fun _ _ _ _ r h => by simp [frame_ReadData.j1] at h, fun _ _ _ _ _ _ r h => by simp [frame_ReadData.l0] at h⟩
  | k + 1 => by
    obtain ⟨ih0, ih1, ih2⟩ := frame_ReadData.mono_l k
    refine ⟨?_, ?_, ?_⟩
    · intro y0 y1
      unfold frame_ReadData.j0
      repeat' first
      | (with_reducible exact ih0 _ _)
      | (with_reducible exact ih1 _ _ _ _)
      | (with_reducible exact ih2 _ _ _ _ _ _)
      | (with_reducible exact frame_Which.mono _ _)
      | (with_reducible exact frame_get.mono _ _)
      | (with_reducible exact frame_open.mono _ _)
      | (with_reducible exact LeO.refl _)
      | (with_reducible exact LeO.none _)
      | (with_reducible refine LeO.ite ?_ ?_)
      | (with_reducible refine LeO.bind ?_ (fun _ => ?_))
      | exact ih0 _ _
      | exact ih1 _ _ _ _
      | exact ih2 _ _ _ _ _ _
      | exact frame_Which.mono _ _
      | exact frame_get.mono _ _
      | exact frame_open.mono _ _
      | exact LeO.none _
      | refine LeO.ite ?_ ?_
      | refine LeO.bind ?_ (fun _ => ?_)
    · intro y0 y1 y2 y3
      unfold frame_ReadData.j1
      repeat' first
      | (with_reducible exact ih0 _ _)
      | (with_reducible exact ih1 _ _ _ _)
      | (with_reducible exact ih2 _ _ _ _ _ _)
      | (with_reducible exact frame_Which.mono _ _)
      | (with_reducible exact frame_get.mono _ _)
      | (with_reducible exact frame_open.mono _ _)
      | (with_reducible exact LeO.refl _)
      | (with_reducible exact LeO.none _)
      | (with_reducible refine LeO.ite ?_ ?_)
      | (with_reducible refine LeO.bind ?_ (fun _ => ?_))
      | exact ih0 _ _
      | exact ih1 _ _ _ _
      | exact ih2 _ _ _ _ _ _
      | exact frame_Which.mono _ _
      | exact frame_get.mono _ _
      | exact frame_open.mono _ _
      | exact LeO.none _
      | refine LeO.ite ?_ ?_
      | refine LeO.bind ?_ (fun _ => ?_)
    · intro y0 y1 y2 y3 y4 y5
      unfold frame_ReadData.l0
      repeat' first
      | (with_reducible exact ih0 _ _)
      | (with_reducible exact ih1 _ _ _ _)
      | (with_reducible exact ih2 _ _ _ _ _ _)
      | (with_reducible exact frame_Which.mono _ _)
      | (with_reducible exact frame_get.mono _ _)
      | (with_reducible exact frame_open.mono _ _)
      | (with_reducible exact LeO.refl _)
      | (with_reducible exact LeO.none _)
      | (with_reducible refine LeO.ite ?_ ?_)
      | (with_reducible refine LeO.bind ?_ (fun _ => ?_))
      | exact ih0 _ _
      | exact ih1 _ _ _ _
      | exact ih2 _ _ _ _ _ _
      | exact frame_Which.mono _ _
      | exact frame_get.mono _ _
      | exact frame_open.mono _ _
      | exact LeO.none _
      | refine LeO.ite ?_ ?_
      | refine LeO.bind ?_ (fun _ => ?_)
theorem frame_ReadData.mono : ∀ a0 k, LeO (frame_ReadData.f k a0) (frame_ReadData.f (k + 1) a0) := by
  intro a0 k
  obtain ⟨ih0, ih1, ih2⟩ := frame_ReadData.mono_l k
  unfold frame_ReadData.f
  repeat' first
      | (with_reducible exact ih0 _ _)
      | (with_reducible exact ih1 _ _ _ _)
      | (with_reducible exact ih2 _ _ _ _ _ _)
      | (with_reducible exact frame_Which.mono _ _)
      | (with_reducible exact frame_get.mono _ _)
      | (with_reducible exact frame_open.mono _ _)
      | (with_reducible exact LeO.refl _)
      | (with_reducible exact LeO.none _)
      | (with_reducible refine LeO.ite ?_ ?_)
      | (with_reducible refine LeO.bind ?_ (fun _ => ?_))
      | exact ih0 _ _
      | exact ih1 _ _ _ _
      | exact ih2 _ _ _ _ _ _
      | exact frame_Which.mono _ _
      | exact frame_get.mono _ _
      | exact frame_open.mono _ _
      | exact LeO.none _
      | refine LeO.ite ?_ ?_
      | refine LeO.bind ?_ (fun _ => ?_)
def frame_ReadData.T5 : Bool × List (List Nat × List Nat) := (true, [([], []), ([0], [0]), ([1], [1]), ([], []), ([3], [3]), ([4, 2], [4]), ([5], [5]), ([2, 5, 0, 1, 2], [2]), ([6, 7, 0, 1, 2, 3, 4, 5, 6, 7], [6])])
def frame_ReadData.B5 : List Nat := [0, 1, 3, 0, 8, 31, 63, 63, 255]
theorem frame_ReadData.tab5 : rtab .any (opsOf Try.f19 5) = frame_ReadData.T5 := by kernel_rfl
theorem frame_ReadData.bits5 : waitsOk frame_ReadData.T5.2 frame_ReadData.B5 = true := by kernel_rfl
def frame_ReadData.T14 : Bool × List (List Nat × List Nat) := (true, [([], []), ([0], [0]), ([1], [1]), ([2], [2]), ([], []), ([4], [4]), ([5], [5]), ([6], [6]), ([], []), ([8], [8]), ([], []), ([], []), ([11], [11]), ([10, 12], [10, 12]), ([13], [13]), ([], []), ([15], [15]), ([3, 7, 9, 14, 16], [3, 7, 9, 14, 16]), ([], []), ([18, 17, 0, 1, 2, 3, 4, 5, 6, 7, 8, 9, 10, 11, 12, 13, 14, 15, 16, 17, 18], [17, 18])])
def frame_ReadData.B14 : List Nat := [0, 1, 3, 7, 0, 16, 48, 112, 0, 256, 0, 0, 2048, 7168, 15360, 0, 32768, 131071, 0, 524287]
theorem frame_ReadData.tab14 : rtab .any (opsOf Try.f19 14) = frame_ReadData.T14 := by kernel_rfl
theorem frame_ReadData.bits14 : waitsOk frame_ReadData.T14.2 frame_ReadData.B14 = true := by kernel_rfl
set_option maxHeartbeats 8000000 in
set_option maxRecDepth 100000 in
theorem frame_ReadData.calls (k : Nat) (A0 : Option Addr) (c0 : Nat) (l0 : List Int) (r1 : Int) (r2 : Int) (r3 : Int) (r4 : ByteArray) (r5 : Int) (r6 : Int) (w : World) (hr0 : Kd.C (Kd.int .u8) w A0 l0.length l0) (hc0 : l0.length ≤ c0) (h : frame_ReadData.f k l0 = some (r1, r2, r3, r4, r5, r6)) :
    Calls Try.prog 19 #[.slice A0 l0.length c0] w fun e w' => e = .returned (.tuple #[.agg #[.int .i64 r1, .int .i64 r2, .int .i64 r3, .string r4, .int .i64 r5], .int .i64 r6]) ∧ Below w.heap.size w w' := by
  have hu36 := Try.underlying36
  have HR0 := Aside0.mk hr0
  have HC0 := Aside0.mk hc0
  clear hr0 hc0
  have HB := Aside0.mk (Below.refl w.heap.size w)
  have H : (if (l0.length : Int) < 64 then (frame_ReadData.j0 k l0 true) else (if (l0.length : Int) > 1518 then (frame_ReadData.j0 k l0 true) else ((frame_Which.f k l0).bind fun t205 => (frame_ReadData.j0 k l0 (t205 != 2))))) = some (r1, r2, r3, r4, r5, r6) := h
  clear h
  have HC2 := Aside0.mk H
  clear H
  go_enter Try.func19, Try.ntmps19
  go_upto_region 1 with (first | ((with_reducible refine gate_dst (N := 2) rfl ?_); (try (refine gate_guard (by rfl) ?_; dsimp only)); refine box_event ?hg (N := 2) ?hd (cs := #[.int .i64 0, .int .i64 0, .int .i64 0, .string (⟨#[]⟩ : ByteArray), .int .i64 0]) (t := 36) ?hr ?_; (case hd => rfl); (case hg => rfl); (case hr => first | (go_simp; done) | (go_simp; rfl)); intro gb204 hg w3 hbox hb; have n0_ := Aside0.mk (below_step (by repeat (first | (with_reducible first | exact HB.out | apply below_alloc | apply pw_below_drewN | apply below_drew1) | exact HB.out)) hb); have n1_ := Aside0.mk (hbox); have n2_ := Aside0.mk ((by rw [hg]; exact (below_size (by repeat (first | (with_reducible first | exact HB.out | apply below_alloc | apply pw_below_drewN | apply below_drew1) | exact HB.out))) : w.heap.size ≤ gb204)); have n3_ := Aside0.mk ((by rw [hg]; exact (below_size (by repeat (first | (with_reducible first | exact HB.out | apply below_alloc | apply pw_below_drewN | apply below_drew1) | exact HB.out))) : w.heap.size ≤ gb204)); clear HB; have HB := n0_; have BK204 := n1_; have GW204 := n2_; have GE204 := n3_; clear n0_ n1_ n2_ n3_; clear hb hbox hg))
  (try simp only [Act.put, List.setIfInBounds_toArray, List.set_cons_zero, List.set_cons_succ])
  go_cut [9] (fun v9 wc => ∃ (kq : Nat) (x9_1 : Bool), v9 = .bool x9_1 ∧ Aside0 (frame_ReadData.j0 kq l0 x9_1 = some (r1, r2, r3, r4, r5, r6)) ∧ Aside0 (kq ≤ k) ∧ Aside0 (wc.heap[gb204]? = some (.cells #[.int .i64 0, .int .i64 0, .int .i64 0, .string (⟨#[]⟩ : ByteArray), .int .i64 0] 36 (0, 0))) ∧ Aside0 (Below w.heap.size w wc))
  case first =>
    have H := HC2.out
    clear HC2
    by_cases c4 : (l0.length : Int) < 64
    · rw [if_pos c4] at H
      have c4b0 : decide ((l0.length : Int) < 64) = true := decide_eq_true c4
      have c4b1 : decide (l0.length < 64) = true := decide_eq_true (by omega)
      clear c4
      (first | rw [c4b0] | (simp only [i64_w, i32_w]; rw [c4b0]) | skip)
      have H' := Aside0.mk H
      clear H
      go_wp2
      go_meet
      case rel => exact ⟨_, (true), (by first | rfl | (simp; done) | (simp [*]; done)), H', ⟨by first | omega | exact Nat.le_refl _⟩, ⟨by (with_reducible repeat (first | refine blk_drewN ?_ _ | refine blk_drew ?_ | refine blk_alloc ?_ _)); exact BK204.out⟩, ⟨by repeat (first | (with_reducible first | exact HB.out | apply below_alloc | apply pw_below_drewN | apply below_drew1 | refine below_set ?_ GE204.out) | exact HB.out)⟩⟩
    · rw [if_neg c4] at H
      have c4b0 : decide ((l0.length : Int) < 64) = false := decide_eq_false c4
      have c4b1 : decide (l0.length < 64) = false := decide_eq_false (by omega)
      clear c4
      (first | rw [c4b0] | (simp only [i64_w, i32_w]; rw [c4b0]) | skip)
      by_cases c5 : (l0.length : Int) > 1518
      · rw [if_pos c5] at H
        have c5b0 : decide (1518 < (l0.length : Int)) = true := decide_eq_true c5
        have c5b1 : decide (1518 < l0.length) = true := decide_eq_true (by omega)
        clear c5
        have H' := Aside0.mk H
        clear H
        go_wp2
        go_meet
        case rel => exact ⟨_, (true), (by first | rfl | (simp; done) | (simp [*]; done)), H', ⟨by first | omega | exact Nat.le_refl _⟩, ⟨by (with_reducible repeat (first | refine blk_drewN ?_ _ | refine blk_drew ?_ | refine blk_alloc ?_ _)); exact BK204.out⟩, ⟨by repeat (first | (with_reducible first | exact HB.out | apply below_alloc | apply pw_below_drewN | apply below_drew1 | refine below_set ?_ GE204.out) | exact HB.out)⟩⟩
      · rw [if_neg c5] at H
        have c5b0 : decide (1518 < (l0.length : Int)) = false := decide_eq_false c5
        have c5b1 : decide (1518 < l0.length) = false := decide_eq_false (by omega)
        clear c5
        replace H := Option.bind_eq_some_iff.mp H
        obtain ⟨t205, A60, H⟩ := H
        replace H : (frame_ReadData.j0 k l0 (t205 != 2)) = some (r1, r2, r3, r4, r5, r6) := H
        have A6 := Aside0.mk A60
        clear A60
        have H' := Aside0.mk H
        clear H
        go_wp2_with (first | (go_at_call 16; (with_reducible refine (frame_Which.calls k _ _ l0 t205 _ ?side1 ?side2 A6.out).mono ?_); (case side1 => repeat (first | exact (Kd.C_below HR0.out HB.out) | (with_reducible refine Kd.C_alloc ?_ _) | (with_reducible refine Kd.C_drewN ?_ _) | (with_reducible refine Kd.C_drew ?_))); (case side2 => exact HC0.out); rintro e w' ⟨rfl, ⟨nd, rfl⟩⟩))
        go_meet
        case rel => exact ⟨_, ((t205 != 2)), (by first | rfl | (simp; done) | (simp [*]; done)), H', ⟨by first | omega | exact Nat.le_refl _⟩, ⟨by (with_reducible repeat (first | refine blk_drewN ?_ _ | refine blk_drew ?_ | refine blk_alloc ?_ _)); exact BK204.out⟩, ⟨by repeat (first | (with_reducible first | exact HB.out | apply below_alloc | apply pw_below_drewN | apply below_drew1 | refine below_set ?_ GE204.out) | exact HB.out)⟩⟩
  case rest =>
    clear HC2
    try clear c1
    try clear p2
    try clear c4
    try clear c4b0
    try clear c4b1
    try clear c5
    try clear c5b0
    try clear c5b1
    obtain ⟨kq, x9_1, rfl, HA, HJ1, BK204, HB⟩ := hcut
    cases kq with
    | zero => exact absurd HA.out (by simp [frame_ReadData.j0])
    | succ kj1 =>
      have H := HA.out
      clear HA
      simp only [frame_ReadData.j0] at H
      by_cases c7 : x9_1 = true
      · subst c7
        have H1 : (some (0, 0, 0, (⟨#[]⟩ : ByteArray), 0, 2)) = some (r1, r2, r3, r4, r5, r6) := by rw [if_pos rfl] at H; exact H
        clear H
        have H := H1
        clear H1
        simp only [Option.some.injEq, Prod.mk.injEq] at H
        obtain ⟨rfl, rfl, rfl, rfl, rfl, rfl⟩ := H
        have hcz8_0 : World.cell? _ ⟨gb204, 0, none⟩ = some (.int .i64 0) := (blk_cell BK204.out 0).trans rfl
        have hcz8_1 : World.cell? _ ⟨gb204, 1, none⟩ = some (.int .i64 0) := (blk_cell BK204.out 1).trans rfl
        have hcz8_2 : World.cell? _ ⟨gb204, 2, none⟩ = some (.int .i64 0) := (blk_cell BK204.out 2).trans rfl
        have hcz8_3 : World.cell? _ ⟨gb204, 3, none⟩ = some (.string (⟨#[]⟩ : ByteArray)) := (blk_cell BK204.out 3).trans rfl
        have hcz8_4 : World.cell? _ ⟨gb204, 4, none⟩ = some (.int .i64 0) := (blk_cell BK204.out 4).trans rfl
        have hfz8_0 := blk_frozen BK204.out 0
        have hfz8_1 := blk_frozen BK204.out 1
        have hfz8_2 := blk_frozen BK204.out 2
        have hfz8_3 := blk_frozen BK204.out 3
        have hfz8_4 := blk_frozen BK204.out 4
        go_wp2
        refine bodyPost_ret (results_ct rfl _ _ gb204 36 #[.int .i64 0, .int .i64 0, .int .i64 0, .string (⟨#[]⟩ : ByteArray), .int .i64 0] (0, 0) _ rfl (by (with_reducible repeat (first | refine blk_drewN ?_ _ | refine blk_drew ?_ | refine blk_alloc ?_ _)); refine blk_put (cs := #[.int .i64 0, .int .i64 0, .int .i64 0, .string (⟨#[]⟩ : ByteArray), .int .i64 0]) ?_ 4 _ rfl; (with_reducible repeat (first | refine blk_drewN ?_ _ | refine blk_drew ?_ | refine blk_alloc ?_ _)); refine blk_put (cs := #[.int .i64 0, .int .i64 0, .int .i64 0, .string (⟨#[]⟩ : ByteArray), .int .i64 0]) ?_ 3 _ rfl; (with_reducible repeat (first | refine blk_drewN ?_ _ | refine blk_drew ?_ | refine blk_alloc ?_ _)); refine blk_put (cs := #[.int .i64 0, .int .i64 0, .int .i64 0, .string (⟨#[]⟩ : ByteArray), .int .i64 0]) ?_ 2 _ rfl; (with_reducible repeat (first | refine blk_drewN ?_ _ | refine blk_drew ?_ | refine blk_alloc ?_ _)); refine blk_put (cs := #[.int .i64 0, .int .i64 0, .int .i64 0, .string (⟨#[]⟩ : ByteArray), .int .i64 0]) ?_ 1 _ rfl; (with_reducible repeat (first | refine blk_drewN ?_ _ | refine blk_drew ?_ | refine blk_alloc ?_ _)); refine blk_put (cs := #[.int .i64 0, .int .i64 0, .int .i64 0, .string (⟨#[]⟩ : ByteArray), .int .i64 0]) ?_ 0 _ rfl; (with_reducible repeat (first | refine blk_drewN ?_ _ | refine blk_drew ?_ | refine blk_alloc ?_ _)); exact BK204.out) Try.underlying36 rfl (by kernel_rfl)) rfl ?_
        exact ⟨by first | rfl | (simp [errW_none, errW_some] <;> rfl) | (simp [*, errW_none, errW_some] <;> rfl), by repeat (first | (with_reducible first | exact HB.out | apply below_alloc | apply pw_below_drewN | apply below_drew1 | refine below_set ?_ GE204.out) | exact HB.out)⟩
      · replace c7 := Bool.eq_false_iff.mpr c7
        subst c7
        have H1 : ((frame_open.f kj1 l0).bind fun t206 => (if t206 = true then (if 8 ≤ (l0.length : Int) then ((frame_get.f kj1 ((l0.take 8).drop 4)).bind fun t211 => (if 10 ≤ (l0.length : Int) then ((frame_get.f kj1 ((l0.take 10).drop 8)).bind fun t216 => (if t211 > 2147483647 then (frame_ReadData.j1 kj1 l0 t211 (wrap64 (t216)) true) else (frame_ReadData.j1 kj1 l0 t211 (wrap64 (t216)) (decide ((wrap64 (t216)) > (wrap64 ((wrap64 ((l0.length : Int) - 10)) - 4))))))) else (none))) else (none)) else (some (0, 0, 0, (⟨#[]⟩ : ByteArray), 0, 8)))) = some (r1, r2, r3, r4, r5, r6) := by rw [if_neg (show ¬ (false = true) by decide)] at H; exact H
        clear H
        have H := H1
        clear H1
        replace H := Option.bind_eq_some_iff.mp H
        obtain ⟨t206, A90, H⟩ := H
        replace H : (if t206 = true then (if 8 ≤ (l0.length : Int) then ((frame_get.f kj1 ((l0.take 8).drop 4)).bind fun t211 => (if 10 ≤ (l0.length : Int) then ((frame_get.f kj1 ((l0.take 10).drop 8)).bind fun t216 => (if t211 > 2147483647 then (frame_ReadData.j1 kj1 l0 t211 (wrap64 (t216)) true) else (frame_ReadData.j1 kj1 l0 t211 (wrap64 (t216)) (decide ((wrap64 (t216)) > (wrap64 ((wrap64 ((l0.length : Int) - 10)) - 4))))))) else (none))) else (none)) else (some (0, 0, 0, (⟨#[]⟩ : ByteArray), 0, 8))) = some (r1, r2, r3, r4, r5, r6) := H
        have A9 := Aside0.mk A90
        clear A90
        by_cases c10 : t206 = true
        · subst c10
          have H1 : (if 8 ≤ (l0.length : Int) then ((frame_get.f kj1 ((l0.take 8).drop 4)).bind fun t211 => (if 10 ≤ (l0.length : Int) then ((frame_get.f kj1 ((l0.take 10).drop 8)).bind fun t216 => (if t211 > 2147483647 then (frame_ReadData.j1 kj1 l0 t211 (wrap64 (t216)) true) else (frame_ReadData.j1 kj1 l0 t211 (wrap64 (t216)) (decide ((wrap64 (t216)) > (wrap64 ((wrap64 ((l0.length : Int) - 10)) - 4))))))) else (none))) else (none)) = some (r1, r2, r3, r4, r5, r6) := by rw [if_pos rfl] at H; exact H
          clear H
          have H := H1
          clear H1
          by_cases c11 : 8 ≤ (l0.length : Int)
          · rw [if_pos c11] at H
            have c11b0 := eq_true c11
            have c11b1 : decide (8 ≤ (l0.length : Int)) = true := decide_eq_true c11
            clear c11
            obtain ⟨y207, hy207⟩ : ∃ y_ : List Int, y_ = ((l0.take 8).drop 4) := ⟨_, rfl⟩
            replace H : ((frame_get.f kj1 y207).bind fun t211 => (if 10 ≤ (l0.length : Int) then ((frame_get.f kj1 ((l0.take 10).drop 8)).bind fun t216 => (if t211 > 2147483647 then (frame_ReadData.j1 kj1 l0 t211 (wrap64 (t216)) true) else (frame_ReadData.j1 kj1 l0 t211 (wrap64 (t216)) (decide ((wrap64 (t216)) > (wrap64 ((wrap64 ((l0.length : Int) - 10)) - 4))))))) else (none))) = some (r1, r2, r3, r4, r5, r6) := by first | (rw [hy207]; with_reducible exact H) | (have H2_ := (Option.bind_some _ _).symm.trans H; rw [hy207]; with_reducible exact H2_) | (have H2_ := (Option.bind_some _ _).symm.trans H; with_reducible exact H2_) | with_reducible exact H | (rw [hy207]; exact H) | exact H
            have Ny207 := Aside0.mk hy207
            clear hy207
            replace H := Option.bind_eq_some_iff.mp H
            obtain ⟨t211, A120, H⟩ := H
            replace H : (if 10 ≤ (l0.length : Int) then ((frame_get.f kj1 ((l0.take 10).drop 8)).bind fun t216 => (if t211 > 2147483647 then (frame_ReadData.j1 kj1 l0 t211 (wrap64 (t216)) true) else (frame_ReadData.j1 kj1 l0 t211 (wrap64 (t216)) (decide ((wrap64 (t216)) > (wrap64 ((wrap64 ((l0.length : Int) - 10)) - 4))))))) else (none)) = some (r1, r2, r3, r4, r5, r6) := H
            have A12 := Aside0.mk A120
            clear A120
            by_cases c13 : 10 ≤ (l0.length : Int)
            · rw [if_pos c13] at H
              have c13b0 := eq_true c13
              have c13b1 : decide (10 ≤ (l0.length : Int)) = true := decide_eq_true c13
              clear c13
              obtain ⟨y212, hy212⟩ : ∃ y_ : List Int, y_ = ((l0.take 10).drop 8) := ⟨_, rfl⟩
              replace H : ((frame_get.f kj1 y212).bind fun t216 => (if t211 > 2147483647 then (frame_ReadData.j1 kj1 l0 t211 (wrap64 (t216)) true) else (frame_ReadData.j1 kj1 l0 t211 (wrap64 (t216)) (decide ((wrap64 (t216)) > (wrap64 ((wrap64 ((l0.length : Int) - 10)) - 4))))))) = some (r1, r2, r3, r4, r5, r6) := by first | (rw [hy212]; with_reducible exact H) | (have H2_ := (Option.bind_some _ _).symm.trans H; rw [hy212]; with_reducible exact H2_) | (have H2_ := (Option.bind_some _ _).symm.trans H; with_reducible exact H2_) | with_reducible exact H | (rw [hy212]; exact H) | exact H
              have Ny212 := Aside0.mk hy212
              clear hy212
              replace H := Option.bind_eq_some_iff.mp H
              obtain ⟨t216, A140, H⟩ := H
              replace H : (if t211 > 2147483647 then (frame_ReadData.j1 kj1 l0 t211 (wrap64 (t216)) true) else (frame_ReadData.j1 kj1 l0 t211 (wrap64 (t216)) (decide ((wrap64 (t216)) > (wrap64 ((wrap64 ((l0.length : Int) - 10)) - 4)))))) = some (r1, r2, r3, r4, r5, r6) := H
              have A14 := Aside0.mk A140
              clear A140
              have HC15 := Aside0.mk H
              clear H
              try go_wp2_with (first | ((with_reducible refine gate_callee (f := 30) rfl ?_); refine goesL_ (some 26) rfl rfl Try.func30 (by kernel_rfl) rfl #[.slice A0 l0.length c0] rfl (by (try simp only [List.map_toArray, List.map_cons, List.map_nil]); first | done | rfl | (simp only [List.length_drop, List.length_take]; rfl)) ?_; (with_reducible refine (frame_open.calls kj1 _ _ l0 true _ ?side1 ?side2 A9.out).mono ?_); (case side1 => repeat (first | exact (Kd.C_below HR0.out HB.out) | (with_reducible refine Kd.C_alloc ?_ _) | (with_reducible refine Kd.C_drewN ?_ _) | (with_reducible refine Kd.C_drew ?_))); (case side2 => exact HC0.out); rintro e w' ⟨rfl, ⟨nd, rfl⟩⟩; refine ⟨_, rfl, ?_⟩))
              (try (rw [drewN_self wc]; generalize hq_ : World.drewN wc _ = wc; have n0_ : Aside0 (wc.heap[gb204]? = some (.cells #[.int .i64 0, .int .i64 0, .int .i64 0, .string (⟨#[]⟩ : ByteArray), .int .i64 0] 36 (0, 0))) := ⟨by rw [← hq_]; exact (by (with_reducible repeat (first | refine blk_drewN ?_ _ | refine blk_drew ?_ | refine blk_alloc ?_ _)); exact BK204.out)⟩; have n1_ : Aside0 (Below w.heap.size w wc) := ⟨by rw [← hq_]; exact (by repeat (first | (with_reducible first | exact HB.out | apply below_alloc | apply pw_below_drewN | apply below_drew1 | refine below_set ?_ GE204.out) | exact HB.out))⟩; clear BK204 HB hq_; have BK204 := n0_; have HB := n1_; clear n0_ n1_))
              have n0_ := Aside0.mk (blk_drew BK204.out)
              have n1_ := Aside0.mk (below_drew1 HB.out)
              clear BK204
              clear HB
              have BK204 := n0_
              have HB := n1_
              clear n0_ n1_
              have q17 : (8 : Int) ≤ ((l0.length : Int) : Int) := of_decide_eq_true (by first | (with_reducible assumption) | assumption)
              obtain ⟨i017, hi017, _, hsz17, _⟩ := info_parts info5
              have hroom17 : l0.length ≤ c0 := HC0.out
              have hC17 : Kd.C (Kd.int .u8) _ A0 l0.length l0 := HR0.out
              have ql17 : (4 : Int) ≤ (8 : Int) := (by omega)
              have hcut17 := cut_mid (P := Try.prog) 26 5 .i64 .i64 Try.underlying26 hi017 1 hsz17 A0 l0.length c0 4 8 (by omega) ql17 q17 hroom17
              have hr17 := Kd.C_mid (lo := (4 : Int).toNat) (hi := (8 : Int).toNat) (c := c0) hC17 (by omega) (by omega) hroom17
              obtain ⟨A17, hA17⟩ : ∃ A1, A1 = (if c0 = (4 : Int).toNat then A0 else (A0 : Option Addr).map (·.add ((4 : Int).toNat * 1))) := ⟨_, rfl⟩
              obtain ⟨c17, hc17⟩ : ∃ c1, c1 = c0 - (4 : Int).toNat := ⟨_, rfl⟩
              have hy17 : y207.length = (8 : Int).toNat - (4 : Int).toNat := (by rw [Ny207.out, List.length_drop, List.length_take] <;> omega)
              rw [show ((l0).take (8 : Int).toNat).drop (4 : Int).toNat = y207 from Ny207.out.symm] at hr17
              replace hr17 : Kd.C (Kd.int .u8) _ A17 y207.length y207 := (by rw [hA17]; exact hr17)
              rw [← hy17, ← hA17, ← hc17] at hcut17
              have HR210 := Aside0.mk hr17
              have HC210 := Aside0.mk (show y207.length ≤ c17 from by rw [hy17, hc17]; exact Nat.sub_le_sub_right (Nat.le_trans (by omega) hroom17) _)
              clear hr17 hC17 hroom17 hi017 hsz17 hc17
              have KY17 := Aside0.mk hy17
              have KA17 := Aside0.mk hA17
              clear hy17 hA17
              replace q17 := eq_true q17
              have q18 : (10 : Int) ≤ ((l0.length : Int) : Int) := of_decide_eq_true (by first | (with_reducible assumption) | assumption)
              obtain ⟨i018, hi018, _, hsz18, _⟩ := info_parts info5
              have hroom18 : l0.length ≤ c0 := HC0.out
              have hC18 : Kd.C (Kd.int .u8) _ A0 l0.length l0 := HR0.out
              have ql18 : (8 : Int) ≤ (10 : Int) := (by omega)
              have hcut18 := cut_mid (P := Try.prog) 26 5 .i64 .i64 Try.underlying26 hi018 1 hsz18 A0 l0.length c0 8 10 (by omega) ql18 q18 hroom18
              have hr18 := Kd.C_mid (lo := (8 : Int).toNat) (hi := (10 : Int).toNat) (c := c0) hC18 (by omega) (by omega) hroom18
              obtain ⟨A18, hA18⟩ : ∃ A1, A1 = (if c0 = (8 : Int).toNat then A0 else (A0 : Option Addr).map (·.add ((8 : Int).toNat * 1))) := ⟨_, rfl⟩
              obtain ⟨c18, hc18⟩ : ∃ c1, c1 = c0 - (8 : Int).toNat := ⟨_, rfl⟩
              have hy18 : y212.length = (10 : Int).toNat - (8 : Int).toNat := (by rw [Ny212.out, List.length_drop, List.length_take] <;> omega)
              rw [show ((l0).take (10 : Int).toNat).drop (8 : Int).toNat = y212 from Ny212.out.symm] at hr18
              replace hr18 : Kd.C (Kd.int .u8) _ A18 y212.length y212 := (by rw [hA18]; exact hr18)
              rw [← hy18, ← hA18, ← hc18] at hcut18
              have HR215 := Aside0.mk hr18
              have HC215 := Aside0.mk (show y212.length ≤ c18 from by rw [hy18, hc18]; exact Nat.sub_le_sub_right (Nat.le_trans (by omega) hroom18) _)
              clear hr18 hC18 hroom18 hi018 hsz18 hc18
              have KY18 := Aside0.mk hy18
              have KA18 := Aside0.mk hA18
              clear hy18 hA18
              replace q18 := eq_true q18
              refine start_ (n := 9) (S := fun w' => True) (ds := []) #[false, false, false, false, false, false, false, false, false] (by kernel_rfl) rfl rfl trivial (fun hHeld => ?_); refine with_tabW frame_ReadData.tab5 frame_ReadData.bits5 (fun HT_ HW_ => ?_)
              generalize wc.drew = w16 at BK204 HB HR210 HR215 hHeld ⊢
              refine pure_ (i := 0) (N := some 29) (v := ?_) (a' := ?_) #[true, false, false, false, false, false, false, false, false] rfl rfl (any_of HT_.out (by kernel_rfl)) (fun _ _ _ h => h) (Or.inl ⟨by rfl, ?_⟩) ?_ ?_
              rotate_left
              · intro w'
                go_simp
                with_reducible rfl
              rotate_left
              · simp only [Act.put, List.setIfInBounds_toArray, List.set_cons_zero, List.set_cons_succ, i64_w, i32_w]
                rfl
              refine pure_ (i := 1) (N := some 30) (v := ?_) (a' := ?_) #[true, true, false, false, false, false, false, false, false] rfl rfl (any_of HT_.out (by kernel_rfl)) (fun _ _ _ h => h) (Or.inl ⟨by rfl, ?_⟩) ?_ ?_
              rotate_left
              · intro w'
                go_simp
                with_reducible rfl
              rotate_left
              · simp only [Act.put, List.setIfInBounds_toArray, List.set_cons_zero, List.set_cons_succ, i64_w, i32_w]
                rfl
              refine pure_ (i := 3) (N := some 32) (v := ?_) (a' := ?_) #[true, true, false, true, false, false, false, false, false] rfl rfl (any_of HT_.out (by kernel_rfl)) (fun _ _ _ h => h) (Or.inl ⟨by rfl, ?_⟩) ?_ ?_
              rotate_left
              · intro w'
                go_simp
                with_reducible rfl
              rotate_left
              · simp only [Act.put, List.setIfInBounds_toArray, List.set_cons_zero, List.set_cons_succ, i64_w, i32_w]
                rfl
              refine pure_ (i := 4) (N := some 33) (v := ?_) (a' := ?_) #[true, true, false, true, true, false, false, false, false] rfl rfl (any_of HT_.out (by kernel_rfl)) (fun _ _ _ h => h) (Or.inl ⟨by rfl, ?_⟩) ?_ ?_
              rotate_left
              · intro w'
                go_simp
                with_reducible rfl
              rotate_left
              · simp only [Act.put, List.setIfInBounds_toArray, List.set_cons_zero, List.set_cons_succ, i64_w, i32_w]
                rfl
              refine one_ (i := 2) (N := some 31) #[true, true, true, true, true, false, false, false, false] rfl rfl (one_of HT_.out (by kernel_rfl)) (by decide) (fun K hK => ?_)
              refine goes_ Try.func31 (by kernel_rfl) rfl #[.slice A17 y207.length c17] (by rfl) rfl rfl (by (try simp only [List.map_toArray, List.map_cons, List.map_nil]); first | done | rfl | (simp only [List.length_drop, List.length_take]; rfl)) ?_
              with_reducible refine (frame_get.calls kj1 _ _ y207 t211 _ ?side1 ?side2 A12.out).mono ?_
              (case side1 => repeat (first | exact (Kd.C_below HR210.out HB.out) | (with_reducible refine Kd.C_alloc ?_ _) | (with_reducible refine Kd.C_drewN ?_ _) | (with_reducible refine Kd.C_drew ?_)))
              (case side2 => exact HC210.out)
              rintro e w' ⟨rfl, ⟨nd, rfl⟩⟩
              refine ⟨_, rfl, ?_⟩
              refine hK.out _ _ trivial (fun hHeld => ?_)
              clear hK K
              refine norm_ (a' := ?_) ?_ ?_
              rotate_left
              · show Act.put _ (some 31) _ = _
                simp only [Act.put, List.setIfInBounds_toArray, List.set_cons_zero, List.set_cons_succ, i64_w, i32_w]
                rfl
              refine one_ (i := 5) (N := some 34) #[true, true, true, true, true, true, false, false, false] rfl rfl (one_of HT_.out (by kernel_rfl)) (by decide) (fun K hK => ?_)
              refine goes_ Try.func31 (by kernel_rfl) rfl #[.slice A18 y212.length c18] (by rfl) rfl rfl (by (try simp only [List.map_toArray, List.map_cons, List.map_nil]); first | done | rfl | (simp only [List.length_drop, List.length_take]; rfl)) ?_
              with_reducible refine (frame_get.calls kj1 _ _ y212 t216 _ ?side1 ?side2 A14.out).mono ?_
              (case side1 => repeat (first | exact (Kd.C_below HR215.out (by repeat (first | (with_reducible first | exact HB.out | apply below_alloc | apply pw_below_drewN | apply below_drew1 | refine below_set ?_ GE204.out) | exact HB.out))) | (with_reducible refine Kd.C_alloc ?_ _) | (with_reducible refine Kd.C_drewN ?_ _) | (with_reducible refine Kd.C_drew ?_)))
              (case side2 => exact HC215.out)
              rintro e w' ⟨rfl, ⟨nd, rfl⟩⟩
              refine ⟨_, rfl, ?_⟩
              refine hK.out _ _ trivial (fun hHeld => ?_)
              clear hK K
              refine norm_ (a' := ?_) ?_ ?_
              rotate_left
              · show Act.put _ (some 34) _ = _
                simp only [Act.put, List.setIfInBounds_toArray, List.set_cons_zero, List.set_cons_succ, i64_w, i32_w]
                rfl
              refine pure_ (i := 6) (N := some 35) (v := ?_) (a' := ?_) #[true, true, true, true, true, true, true, false, false] rfl rfl (any_of HT_.out (by kernel_rfl)) (fun _ _ _ h => h) (Or.inl ⟨by rfl, ?_⟩) ?_ ?_
              rotate_left
              · intro w'
                go_simp
                with_reducible rfl
              rotate_left
              · simp only [Act.put, List.setIfInBounds_toArray, List.set_cons_zero, List.set_cons_succ, i64_w, i32_w]
                rfl
              refine pure_ (i := 7) (N := some 4) (v := ?_) (a' := ?_) #[true, true, true, true, true, true, true, true, false] rfl rfl (any_of HT_.out (by kernel_rfl)) (fun _ _ _ h => h) (Or.inl ⟨by rfl, ?_⟩) ?_ ?_
              rotate_left
              · intro w'
                go_simp
                with_reducible rfl
              rotate_left
              · simp only [Act.put, List.setIfInBounds_toArray, List.set_cons_zero, List.set_cons_succ, i64_w, i32_w]
                rfl
              refine pure_ (i := 8) (N := some 5) (v := ?_) (a' := ?_) #[true, true, true, true, true, true, true, true, true] rfl rfl (any_of HT_.out (by kernel_rfl)) (fun _ _ _ h => h) (Or.inl ⟨by rfl, ?_⟩) ?_ ?_
              rotate_left
              · intro w'
                go_simp
                with_reducible rfl
              rotate_left
              · simp only [Act.put, List.setIfInBounds_toArray, List.set_cons_zero, List.set_cons_succ, i64_w, i32_w]
                rfl
              refine done_ (done_of HT_.out (by kernel_rfl)) ?_
              go_upto_region 6 with (fail)
              go_cut [45] (fun v45 wc => ∃ (kq : Nat) (x45_14 : Bool), v45 = .bool x45_14 ∧ Aside0 (frame_ReadData.j1 kq l0 t211 (wrap64 (t216)) x45_14 = some (r1, r2, r3, r4, r5, r6)) ∧ Aside0 (kq ≤ kj1) ∧ Aside0 (wc.heap[gb204]? = some (.cells #[.int .i64 0, .int .i64 0, .int .i64 0, .string (⟨#[]⟩ : ByteArray), .int .i64 0] 36 (0, 0))) ∧ Aside0 (Below w.heap.size w wc))
              case first =>
                have H := HC15.out
                clear HC15
                by_cases c19 : t211 > 2147483647
                · rw [if_pos c19] at H
                  have c19b0 : decide (2147483647 < t211) = true := decide_eq_true c19
                  clear c19
                  (first | rw [c19b0] | (simp only [i64_w, i32_w]; rw [c19b0]) | skip)
                  have H' := Aside0.mk H
                  clear H
                  go_wp2
                  go_meet
                  case rel => exact ⟨_, (true), (by first | rfl | (simp; done) | (simp [*]; done)), H', ⟨by have := HJ1.out; first | omega | exact Nat.le_refl _⟩, ⟨by (with_reducible repeat (first | refine blk_drewN ?_ _ | refine blk_drew ?_ | refine blk_alloc ?_ _)); exact BK204.out⟩, ⟨by repeat (first | (with_reducible first | exact HB.out | apply below_alloc | apply pw_below_drewN | apply below_drew1 | refine below_set ?_ GE204.out) | exact HB.out)⟩⟩
                · rw [if_neg c19] at H
                  have c19b0 : decide (2147483647 < t211) = false := decide_eq_false c19
                  clear c19
                  (first | rw [c19b0] | (simp only [i64_w, i32_w]; rw [c19b0]) | skip)
                  have H' := Aside0.mk H
                  clear H
                  go_wp2
                  go_meet
                  case rel => exact ⟨_, (decide ((wrap64 (t216)) > (wrap64 ((wrap64 ((l0.length : Int) - 10)) - 4)))), (by first | rfl | (simp; done) | (simp [*]; done)), H', ⟨by have := HJ1.out; first | omega | exact Nat.le_refl _⟩, ⟨by (with_reducible repeat (first | refine blk_drewN ?_ _ | refine blk_drew ?_ | refine blk_alloc ?_ _)); exact BK204.out⟩, ⟨by repeat (first | (with_reducible first | exact HB.out | apply below_alloc | apply pw_below_drewN | apply below_drew1 | refine below_set ?_ GE204.out) | exact HB.out)⟩⟩
              case rest =>
                clear HC15
                try clear c1
                try clear q1
                try clear p2
                try clear c3
                try clear c4
                try clear c4b0
                try clear c4b1
                try clear c5
                try clear c5b0
                try clear c5b1
                try clear p6
                try clear c7
                try clear c10
                try clear c11
                try clear c11b0
                try clear c11b1
                try clear c13
                try clear c13b0
                try clear c13b1
                try clear c17
                try clear q17
                try clear c18
                try clear q18
                try clear c19
                try clear c19b0
                try clear hcz8_0
                try clear hcz8_1
                try clear hcz8_2
                try clear hcz8_3
                try clear hcz8_4
                try clear hfz8_0
                try clear hfz8_1
                try clear hfz8_2
                try clear hfz8_3
                try clear hfz8_4
                try clear p2
                try clear q17
                try clear q18
                obtain ⟨kq, x45_14, rfl, HA, HJ14, BK204, HB⟩ := hcut
                cases kq with
                | zero => exact absurd HA.out (by simp [frame_ReadData.j1])
                | succ kj14 =>
                  have H := HA.out
                  clear HA
                  simp only [frame_ReadData.j1] at H
                  by_cases c20 : x45_14 = true
                  · subst c20
                    have H1 : (some (0, 0, 0, (⟨#[]⟩ : ByteArray), 0, 2)) = some (r1, r2, r3, r4, r5, r6) := by rw [if_pos rfl] at H; exact H
                    clear H
                    have H := H1
                    clear H1
                    simp only [Option.some.injEq, Prod.mk.injEq] at H
                    obtain ⟨rfl, rfl, rfl, rfl, rfl, rfl⟩ := H
                    have hcz21_0 : World.cell? _ ⟨gb204, 0, none⟩ = some (.int .i64 0) := (blk_cell BK204.out 0).trans rfl
                    have hcz21_1 : World.cell? _ ⟨gb204, 1, none⟩ = some (.int .i64 0) := (blk_cell BK204.out 1).trans rfl
                    have hcz21_2 : World.cell? _ ⟨gb204, 2, none⟩ = some (.int .i64 0) := (blk_cell BK204.out 2).trans rfl
                    have hcz21_3 : World.cell? _ ⟨gb204, 3, none⟩ = some (.string (⟨#[]⟩ : ByteArray)) := (blk_cell BK204.out 3).trans rfl
                    have hcz21_4 : World.cell? _ ⟨gb204, 4, none⟩ = some (.int .i64 0) := (blk_cell BK204.out 4).trans rfl
                    have hfz21_0 := blk_frozen BK204.out 0
                    have hfz21_1 := blk_frozen BK204.out 1
                    have hfz21_2 := blk_frozen BK204.out 2
                    have hfz21_3 := blk_frozen BK204.out 3
                    have hfz21_4 := blk_frozen BK204.out 4
                    go_wp2
                    refine bodyPost_ret (results_ct rfl _ _ gb204 36 #[.int .i64 0, .int .i64 0, .int .i64 0, .string (⟨#[]⟩ : ByteArray), .int .i64 0] (0, 0) _ rfl (by (with_reducible repeat (first | refine blk_drewN ?_ _ | refine blk_drew ?_ | refine blk_alloc ?_ _)); refine blk_put (cs := #[.int .i64 0, .int .i64 0, .int .i64 0, .string (⟨#[]⟩ : ByteArray), .int .i64 0]) ?_ 4 _ rfl; (with_reducible repeat (first | refine blk_drewN ?_ _ | refine blk_drew ?_ | refine blk_alloc ?_ _)); refine blk_put (cs := #[.int .i64 0, .int .i64 0, .int .i64 0, .string (⟨#[]⟩ : ByteArray), .int .i64 0]) ?_ 3 _ rfl; (with_reducible repeat (first | refine blk_drewN ?_ _ | refine blk_drew ?_ | refine blk_alloc ?_ _)); refine blk_put (cs := #[.int .i64 0, .int .i64 0, .int .i64 0, .string (⟨#[]⟩ : ByteArray), .int .i64 0]) ?_ 2 _ rfl; (with_reducible repeat (first | refine blk_drewN ?_ _ | refine blk_drew ?_ | refine blk_alloc ?_ _)); refine blk_put (cs := #[.int .i64 0, .int .i64 0, .int .i64 0, .string (⟨#[]⟩ : ByteArray), .int .i64 0]) ?_ 1 _ rfl; (with_reducible repeat (first | refine blk_drewN ?_ _ | refine blk_drew ?_ | refine blk_alloc ?_ _)); refine blk_put (cs := #[.int .i64 0, .int .i64 0, .int .i64 0, .string (⟨#[]⟩ : ByteArray), .int .i64 0]) ?_ 0 _ rfl; (with_reducible repeat (first | refine blk_drewN ?_ _ | refine blk_drew ?_ | refine blk_alloc ?_ _)); exact BK204.out) Try.underlying36 rfl (by kernel_rfl)) rfl ?_
                    exact ⟨by first | rfl | (simp [errW_none, errW_some] <;> rfl) | (simp [*, errW_none, errW_some] <;> rfl), by repeat (first | (with_reducible first | exact HB.out | apply below_alloc | apply pw_below_drewN | apply below_drew1 | refine below_set ?_ GE204.out) | exact HB.out)⟩
                  · replace c20 := Bool.eq_false_iff.mpr c20
                    subst c20
                    have H1 : (if 0 ≤ (wrap64 (10 + (wrap64 (t216)))) then (if (wrap64 (10 + (wrap64 (t216)))) ≤ (wrap64 ((l0.length : Int) - 4)) then (if (wrap64 ((l0.length : Int) - 4)) ≤ (l0.length : Int) then ((some ((l0.take ((wrap64 ((l0.length : Int) - 4)) : Int).toNat).drop ((wrap64 (10 + (wrap64 (t216)))) : Int).toNat : List Int)).bind fun y217 => (frame_ReadData.l0 kj14 l0 t211 (wrap64 (t216)) y217 (y217.length : Int) 0)) else (none)) else (none)) else (none)) = some (r1, r2, r3, r4, r5, r6) := by rw [if_neg (show ¬ (false = true) by decide)] at H; exact H
                    clear H
                    have H := H1
                    clear H1
                    obtain ⟨ji22, hji22⟩ : ∃ j_ : Int, (wrap64 (10 + (wrap64 (t216)))) = j_ := ⟨_, rfl⟩
                    replace H : (if 0 ≤ (ji22) then (if (ji22) ≤ (wrap64 ((l0.length : Int) - 4)) then (if (wrap64 ((l0.length : Int) - 4)) ≤ (l0.length : Int) then ((some ((l0.take ((wrap64 ((l0.length : Int) - 4)) : Int).toNat).drop ((ji22) : Int).toNat : List Int)).bind fun y217 => (frame_ReadData.l0 kj14 l0 t211 (wrap64 (t216)) y217 (y217.length : Int) 0)) else (none)) else (none)) else (none)) = some (r1, r2, r3, r4, r5, r6) := by first | (rw [hji22] at H; exact H) | (simp only [hji22] at H ⊢; exact H)
                    have hji22w : (IntKind.i64.wrap (10 + (wrap64 (t216)))) = ji22 := (i64_w _).trans hji22
                    by_cases c23 : 0 ≤ (ji22)
                    · rw [if_pos c23] at H
                      have c23b0 := eq_true c23
                      have c23b1 : decide (0 ≤ (ji22)) = true := decide_eq_true c23
                      clear c23
                      by_cases c24 : (ji22) ≤ (wrap64 ((l0.length : Int) - 4))
                      · rw [if_pos c24] at H
                        have c24b0 := eq_true c24
                        have c24b1 : decide ((ji22) ≤ (wrap64 ((l0.length : Int) - 4))) = true := decide_eq_true c24
                        clear c24
                        by_cases c25 : (wrap64 ((l0.length : Int) - 4)) ≤ (l0.length : Int)
                        · rw [if_pos c25] at H
                          have c25b0 := eq_true c25
                          have c25b1 : decide ((wrap64 ((l0.length : Int) - 4)) ≤ (l0.length : Int)) = true := decide_eq_true c25
                          clear c25
                          obtain ⟨y217, hy217⟩ : ∃ y_ : List Int, y_ = ((l0.take ((wrap64 ((l0.length : Int) - 4)) : Int).toNat).drop ((ji22) : Int).toNat) := ⟨_, rfl⟩
                          replace H : (frame_ReadData.l0 kj14 l0 t211 (wrap64 (t216)) y217 (y217.length : Int) 0) = some (r1, r2, r3, r4, r5, r6) := by first | (rw [hy217]; with_reducible exact H) | (have H2_ := (Option.bind_some _ _).symm.trans H; rw [hy217]; with_reducible exact H2_) | (have H2_ := (Option.bind_some _ _).symm.trans H; with_reducible exact H2_) | with_reducible exact H | (rw [hy217]; exact H) | exact H
                          have Ny217 := Aside0.mk hy217
                          clear hy217
                          have H' := Aside0.mk H
                          clear H
                          have q26 : ((wrap64 ((l0.length : Int) - 4)) : Int) ≤ ((l0.length : Int) : Int) := of_decide_eq_true (by first | (with_reducible assumption) | assumption)
                          obtain ⟨i026, hi026, _, hsz26, _⟩ := info_parts info5
                          have hroom26 : l0.length ≤ c0 := HC0.out
                          have hC26 : Kd.C (Kd.int .u8) _ A0 l0.length l0 := HR0.out
                          have ql26 : ((ji22) : Int) ≤ ((wrap64 ((l0.length : Int) - 4)) : Int) := of_decide_eq_true (by first | (with_reducible assumption) | assumption)
                          have q026 : (0 : Int) ≤ ((ji22) : Int) := of_decide_eq_true (by first | (with_reducible assumption) | assumption)
                          have hcut26 := cut_mid (P := Try.prog) 26 5 .i64 .i64 Try.underlying26 hi026 1 hsz26 A0 l0.length c0 (ji22) (wrap64 ((l0.length : Int) - 4)) q026 ql26 q26 hroom26
                          have hr26 := Kd.C_mid (lo := ((ji22) : Int).toNat) (hi := ((wrap64 ((l0.length : Int) - 4)) : Int).toNat) (c := c0) hC26 (by omega) (by omega) hroom26
                          obtain ⟨A26, hA26⟩ : ∃ A1, A1 = (if c0 = ((ji22) : Int).toNat then A0 else (A0 : Option Addr).map (·.add (((ji22) : Int).toNat * 1))) := ⟨_, rfl⟩
                          obtain ⟨c26, hc26⟩ : ∃ c1, c1 = c0 - ((ji22) : Int).toNat := ⟨_, rfl⟩
                          have hy26 : y217.length = ((wrap64 ((l0.length : Int) - 4)) : Int).toNat - ((ji22) : Int).toNat := (by rw [Ny217.out, List.length_drop, List.length_take] <;> omega)
                          rw [show ((l0).take ((wrap64 ((l0.length : Int) - 4)) : Int).toNat).drop ((ji22) : Int).toNat = y217 from Ny217.out.symm] at hr26
                          replace hr26 : Kd.C (Kd.int .u8) _ A26 y217.length y217 := (by rw [hA26]; exact hr26)
                          rw [← hy26, ← hA26, ← hc26] at hcut26
                          have HR220 := Aside0.mk hr26
                          have HC220 := Aside0.mk (show y217.length ≤ c26 from by rw [hy26, hc26]; exact Nat.sub_le_sub_right (Nat.le_trans (by omega) hroom26) _)
                          clear hr26 hC26 hroom26 hi026 hsz26 hc26
                          have KY26 := Aside0.mk hy26
                          have KA26 := Aside0.mk hA26
                          clear hy26 hA26
                          (try simp only [hji22] at hcut26)
                          replace q26 := eq_true q26
                          go_wp2
                          go_loopg [55] kj14 (fun kq v55 w' => ∃ (x55_3 : Int) (x205000_3 : Int) (x205001_3 : Int) (x205002_3 : Int) (x205003_3 : ByteArray) (x205004_3 : Int), v55 = .int .i64 x55_3 ∧ Aside0 (frame_ReadData.l0 kq l0 t211 (wrap64 (t216)) y217 (y217.length : Int) x55_3 = some (r1, r2, r3, r4, r5, r6)) ∧ Aside0 (kq ≤ kj14) ∧ Aside0 (w'.heap[gb204]? = some (.cells #[.int .i64 x205000_3, .int .i64 x205001_3, .int .i64 x205002_3, .string x205003_3, .int .i64 x205004_3] 36 (0, 0))) ∧ Aside0 (Below w.heap.size w w'))
                          case atStart => exact ⟨(0), (0), (0), (0), ((⟨#[]⟩ : ByteArray)), (0), (by first | rfl | (simp; done) | (simp [*]; done)), H', ⟨Nat.le_refl _⟩, ⟨by (with_reducible repeat (first | refine blk_drewN ?_ _ | refine blk_drew ?_ | refine blk_alloc ?_ _)); exact BK204.out⟩, ⟨by repeat (first | (with_reducible first | exact HB.out | apply below_alloc | apply pw_below_drewN | apply below_drew1 | refine below_set ?_ GE204.out) | exact HB.out)⟩⟩
                          case round =>
                            clear H'
                            try clear c1
                            try clear q1
                            try clear c2
                            try clear p2
                            try clear q2
                            try clear c3
                            try clear c4
                            try clear c4b0
                            try clear c4b1
                            try clear c5
                            try clear c5b0
                            try clear c5b1
                            try clear p6
                            try clear c7
                            try clear c10
                            try clear c11
                            try clear c11b0
                            try clear c11b1
                            try clear c13
                            try clear c13b0
                            try clear c13b1
                            try clear c17
                            try clear q17
                            try clear c18
                            try clear q18
                            try clear c19
                            try clear c19b0
                            try clear c20
                            try clear c23
                            try clear c23b0
                            try clear c23b1
                            try clear c24
                            try clear c24b0
                            try clear c24b1
                            try clear c25
                            try clear c25b0
                            try clear c25b1
                            try clear c26
                            try clear q26
                            try clear hcz21_0
                            try clear hcz21_1
                            try clear hcz21_2
                            try clear hcz21_3
                            try clear hcz21_4
                            try clear hcz8_0
                            try clear hcz8_1
                            try clear hcz8_2
                            try clear hcz8_3
                            try clear hcz8_4
                            try clear hfz21_0
                            try clear hfz21_1
                            try clear hfz21_2
                            try clear hfz21_3
                            try clear hfz21_4
                            try clear hfz8_0
                            try clear hfz8_1
                            try clear hfz8_2
                            try clear hfz8_3
                            try clear hfz8_4
                            try clear p2
                            try clear p6
                            try clear q026
                            try clear q1
                            try clear q17
                            try clear q18
                            try clear q26
                            obtain ⟨x55_3, x205000_3, x205001_3, x205002_3, x205003_3, x205004_3, rfl, HA, HK3, BK204, HB⟩ := hrel
                            cases gk with
                            | zero => exact absurd HA.out (by simp [frame_ReadData.l0])
                            | succ k3 =>
                              have H := HA.out
                              clear HA
                              simp only [frame_ReadData.l0] at H
                              by_cases c27 : x55_3 < (y217.length : Int)
                              · rw [if_pos c27] at H
                                have c27b0 : decide (x55_3 < (y217.length : Int)) = true := decide_eq_true c27
                                clear c27
                                by_cases c28 : 0 ≤ x55_3
                                · rw [if_pos c28] at H
                                  have c28b0 : decide (0 ≤ x55_3) = true := decide_eq_true c28
                                  clear c28
                                  by_cases c29 : x55_3 < (y217.length : Int)
                                  · rw [if_pos c29] at H
                                    have c29b0 : decide (x55_3 < (y217.length : Int)) = true := decide_eq_true c29
                                    clear c29
                                    by_cases c30 : (rd y217 x55_3) = 0
                                    · rw [if_pos c30] at H
                                      have c30b0 : ((rd y217 x55_3) == 0) = true := beq_iff_eq.mpr c30
                                      have c30b1 : ((rd y217 x55_3) != 0) = false := bne_eq_false_iff_eq.mpr c30
                                      clear c30
                                      have H' := Aside0.mk H
                                      clear H
                                      have p221 : 0 ≤ (x55_3 : Int) := of_decide_eq_true (by first | (with_reducible assumption) | assumption)
                                      have q221 : x55_3 < (y217.length : Int) := of_decide_eq_true (by first | (with_reducible assumption) | assumption)
                                      obtain ⟨ad221, e221, hx221_0⟩ := Kd.at_int HR220.out x55_3 p221 q221
                                      cases e221
                                      replace hx221_0 := (HB.out.cell (World.block_lt_of_cell? w _ hx221_0)).trans hx221_0
                                      replace p221 := eq_true p221
                                      replace q221 := eq_true q221
                                      go_wp2
                                      go_roundg k3
                                      case measure => have := HJ1.out; have := HJ14.out; have := HK3.out; omega
                                      case rel => exact ⟨(wrap64 (x55_3 + 1)), (x205000_3), (x205001_3), (x205002_3), (x205003_3), (x205004_3), (by first | rfl | (simp; done) | (simp [*]; done)), H', ⟨by have := HJ1.out; have := HJ14.out; have := HK3.out; omega⟩, ⟨by (with_reducible repeat (first | refine blk_drewN ?_ _ | refine blk_drew ?_ | refine blk_alloc ?_ _)); exact BK204.out⟩, ⟨by repeat (first | (with_reducible first | exact HB.out | apply below_alloc | apply pw_below_drewN | apply below_drew1 | refine below_set ?_ GE204.out) | exact HB.out)⟩⟩
                                    · rw [if_neg c30] at H
                                      have c30b0 : ((rd y217 x55_3) == 0) = false := beq_eq_false_iff_ne.mpr c30
                                      have c30b1 : ((rd y217 x55_3) != 0) = true := bne_iff_ne.mpr c30
                                      simp only [Option.some.injEq, Prod.mk.injEq] at H
                                      obtain ⟨rfl, rfl, rfl, rfl, rfl, rfl⟩ := H
                                      have p221 : 0 ≤ (x55_3 : Int) := of_decide_eq_true (by first | (with_reducible assumption) | assumption)
                                      have q221 : x55_3 < (y217.length : Int) := of_decide_eq_true (by first | (with_reducible assumption) | assumption)
                                      obtain ⟨ad221, e221, hx221_0⟩ := Kd.at_int HR220.out x55_3 p221 q221
                                      cases e221
                                      replace hx221_0 := (HB.out.cell (World.block_lt_of_cell? w _ hx221_0)).trans hx221_0
                                      replace p221 := eq_true p221
                                      replace q221 := eq_true q221
                                      have hcz31_0 : World.cell? _ ⟨gb204, 0, none⟩ = some (.int .i64 x205000_3) := (blk_cell BK204.out 0).trans rfl
                                      have hcz31_1 : World.cell? _ ⟨gb204, 1, none⟩ = some (.int .i64 x205001_3) := (blk_cell BK204.out 1).trans rfl
                                      have hcz31_2 : World.cell? _ ⟨gb204, 2, none⟩ = some (.int .i64 x205002_3) := (blk_cell BK204.out 2).trans rfl
                                      have hcz31_3 : World.cell? _ ⟨gb204, 3, none⟩ = some (.string x205003_3) := (blk_cell BK204.out 3).trans rfl
                                      have hcz31_4 : World.cell? _ ⟨gb204, 4, none⟩ = some (.int .i64 x205004_3) := (blk_cell BK204.out 4).trans rfl
                                      have hfz31_0 := blk_frozen BK204.out 0
                                      have hfz31_1 := blk_frozen BK204.out 1
                                      have hfz31_2 := blk_frozen BK204.out 2
                                      have hfz31_3 := blk_frozen BK204.out 3
                                      have hfz31_4 := blk_frozen BK204.out 4
                                      go_wp2
                                      refine bodyPost_ret (results_ct rfl _ _ gb204 36 #[.int .i64 0, .int .i64 0, .int .i64 0, .string (⟨#[]⟩ : ByteArray), .int .i64 0] (0, 0) _ rfl (by (with_reducible repeat (first | refine blk_drewN ?_ _ | refine blk_drew ?_ | refine blk_alloc ?_ _)); refine blk_put (cs := #[.int .i64 0, .int .i64 0, .int .i64 0, .string (⟨#[]⟩ : ByteArray), .int .i64 x205004_3]) ?_ 4 _ rfl; (with_reducible repeat (first | refine blk_drewN ?_ _ | refine blk_drew ?_ | refine blk_alloc ?_ _)); refine blk_put (cs := #[.int .i64 0, .int .i64 0, .int .i64 0, .string x205003_3, .int .i64 x205004_3]) ?_ 3 _ rfl; (with_reducible repeat (first | refine blk_drewN ?_ _ | refine blk_drew ?_ | refine blk_alloc ?_ _)); refine blk_put (cs := #[.int .i64 0, .int .i64 0, .int .i64 x205002_3, .string x205003_3, .int .i64 x205004_3]) ?_ 2 _ rfl; (with_reducible repeat (first | refine blk_drewN ?_ _ | refine blk_drew ?_ | refine blk_alloc ?_ _)); refine blk_put (cs := #[.int .i64 0, .int .i64 x205001_3, .int .i64 x205002_3, .string x205003_3, .int .i64 x205004_3]) ?_ 1 _ rfl; (with_reducible repeat (first | refine blk_drewN ?_ _ | refine blk_drew ?_ | refine blk_alloc ?_ _)); refine blk_put (cs := #[.int .i64 x205000_3, .int .i64 x205001_3, .int .i64 x205002_3, .string x205003_3, .int .i64 x205004_3]) ?_ 0 _ rfl; (with_reducible repeat (first | refine blk_drewN ?_ _ | refine blk_drew ?_ | refine blk_alloc ?_ _)); exact BK204.out) Try.underlying36 rfl (by kernel_rfl)) rfl ?_
                                      exact ⟨by first | rfl | (simp [errW_none, errW_some] <;> rfl) | (simp only [← hji22]; first | rfl | (simp [errW_none, errW_some] <;> rfl)) | (simp [*, errW_none, errW_some] <;> rfl), by repeat (first | (with_reducible first | exact HB.out | apply below_alloc | apply pw_below_drewN | apply below_drew1 | refine below_set ?_ GE204.out) | exact HB.out)⟩
                                  · rw [if_neg c29] at H
                                    exact absurd H (by simp)
                                · rw [if_neg c28] at H
                                  exact absurd H (by simp)
                              · rw [if_neg c27] at H
                                have c27b0 : decide (x55_3 < (y217.length : Int)) = false := decide_eq_false c27
                                clear c27
                                by_cases c32 : 2 < (l0.length : Int)
                                · rw [if_pos c32] at H
                                  have c32b0 : decide (2 < (l0.length : Int)) = true := decide_eq_true c32
                                  have c32b1 : decide (2 < l0.length) = true := decide_eq_true (by omega)
                                  clear c32
                                  by_cases c33 : 3 < (l0.length : Int)
                                  · rw [if_pos c33] at H
                                    have c33b0 : decide (3 < (l0.length : Int)) = true := decide_eq_true c33
                                    have c33b1 : decide (3 < l0.length) = true := decide_eq_true (by omega)
                                    clear c33
                                    by_cases c34 : 10 ≤ (wrap64 (10 + (wrap64 (t216))))
                                    · rw [if_pos c34] at H
                                      have c34b0 := eq_true c34
                                      have c34b1 : decide (10 ≤ (wrap64 (10 + (wrap64 (t216))))) = true := decide_eq_true c34
                                      by_cases c35 : (wrap64 (10 + (wrap64 (t216)))) ≤ (l0.length : Int)
                                      · rw [if_pos c35] at H
                                        have c35b0 := eq_true c35
                                        have c35b1 : decide ((wrap64 (10 + (wrap64 (t216)))) ≤ (l0.length : Int)) = true := decide_eq_true c35
                                        obtain ⟨y224, hy224⟩ : ∃ y_ : List Int, y_ = ((l0.take ((wrap64 (10 + (wrap64 (t216)))) : Int).toNat).drop 10) := ⟨_, rfl⟩
                                        replace H : ((frame_rightData.f (wrap64 (rd l0 2)) (wrap64 (rd l0 3)) (wrap64 (t211)) (strOfNums y224) (l0.length : Int)).bind fun t229 => (if t229 = true then (some (wrap64 (rd l0 2), wrap64 (rd l0 3), wrap64 (t211), strOfNums y224, (l0.length : Int), 0)) else (some (0, 0, 0, (⟨#[]⟩ : ByteArray), 0, 2)))) = some (r1, r2, r3, r4, r5, r6) := by first | (rw [hy224]; with_reducible exact H) | (have H2_ := (Option.bind_some _ _).symm.trans H; rw [hy224]; with_reducible exact H2_) | (have H2_ := (Option.bind_some _ _).symm.trans H; with_reducible exact H2_) | with_reducible exact H | (rw [hy224]; exact H) | exact H
                                        have Ny224 := Aside0.mk hy224
                                        clear hy224
                                        replace H := Option.bind_eq_some_iff.mp H
                                        obtain ⟨t229, A360, H⟩ := H
                                        replace H : (if t229 = true then (some (wrap64 (rd l0 2), wrap64 (rd l0 3), wrap64 (t211), strOfNums y224, (l0.length : Int), 0)) else (some (0, 0, 0, (⟨#[]⟩ : ByteArray), 0, 2))) = some (r1, r2, r3, r4, r5, r6) := H
                                        have A36 := Aside0.mk A360
                                        clear A360
                                        by_cases c37 : t229 = true
                                        · subst c37
                                          have H1 : (some (wrap64 (rd l0 2), wrap64 (rd l0 3), wrap64 (t211), strOfNums y224, (l0.length : Int), 0)) = some (r1, r2, r3, r4, r5, r6) := by rw [if_pos rfl] at H; exact H
                                          clear H
                                          have H := H1
                                          clear H1
                                          simp only [Option.some.injEq, Prod.mk.injEq] at H
                                          obtain ⟨rfl, rfl, rfl, rfl, rfl, rfl⟩ := H
                                          try go_wp2
                                          have n0_ := Aside0.mk (blk_drew BK204.out)
                                          have n1_ := Aside0.mk (below_drew1 HB.out)
                                          clear BK204
                                          clear HB
                                          have BK204 := n0_
                                          have HB := n1_
                                          clear n0_ n1_
                                          have p222 : 0 ≤ (2 : Int) := (by omega)
                                          have q222 : 2 < (l0.length : Int) := of_decide_eq_true (by first | (with_reducible assumption) | assumption)
                                          obtain ⟨ad222, e222, hx222_0⟩ := Kd.at_int HR0.out 2 p222 q222
                                          have hw222_0 := hx222_0
                                          (try rw [show ((2 : Int)).toNat = 2 from rfl] at hw222_0)
                                          (try rw [show 2 * 1 = 2 from rfl] at hw222_0)
                                          (try simp only [Nat.reduceMul, Nat.reduceEqDiff, Go.Addr.add, ↓reduceIte] at hw222_0)
                                          cases e222
                                          (try simp only [show (2 : Int).toNat = 2 from rfl, Nat.reduceMul, Nat.reduceEqDiff, Go.Addr.add, ↓reduceIte] at hx222_0)
                                          have qi222 : (2 < l0.length) = True := eq_true (by omega)
                                          (try rw [show ((2 : Int)).toNat = 2 from rfl] at hx222_0)
                                          replace hx222_0 := (HB.out.cell (World.block_lt_of_cell? w _ hx222_0)).trans hx222_0
                                          replace p222 := eq_true p222
                                          replace q222 := eq_true q222
                                          have p223 : 0 ≤ (3 : Int) := (by omega)
                                          have q223 : 3 < (l0.length : Int) := of_decide_eq_true (by first | (with_reducible assumption) | assumption)
                                          obtain ⟨ad223, e223, hx223_0⟩ := Kd.at_int HR0.out 3 p223 q223
                                          have hw223_0 := hx223_0
                                          (try rw [show ((3 : Int)).toNat = 3 from rfl] at hw223_0)
                                          (try rw [show 3 * 1 = 3 from rfl] at hw223_0)
                                          (try simp only [Nat.reduceMul, Nat.reduceEqDiff, Go.Addr.add, ↓reduceIte] at hw223_0)
                                          obtain rfl : ad222 = ad223 := (by injection e223)
                                          (try simp only [show (3 : Int).toNat = 3 from rfl, Nat.reduceMul, Nat.reduceEqDiff, Go.Addr.add, ↓reduceIte] at hx223_0)
                                          have qi223 : (3 < l0.length) = True := eq_true (by omega)
                                          (try rw [show ((3 : Int)).toNat = 3 from rfl] at hx223_0)
                                          replace hx223_0 := (HB.out.cell (World.block_lt_of_cell? w _ hx223_0)).trans hx223_0
                                          replace p223 := eq_true p223
                                          replace q223 := eq_true q223
                                          have q39 : ((wrap64 (10 + (wrap64 (t216)))) : Int) ≤ ((l0.length : Int) : Int) := of_decide_eq_true (by first | (with_reducible assumption) | assumption)
                                          obtain ⟨i039, hi039, _, hsz39, _⟩ := info_parts info5
                                          have hroom39 : l0.length ≤ c0 := HC0.out
                                          have hC39 : Kd.C (Kd.int .u8) _ (some ad222) l0.length l0 := HR0.out
                                          have ql39 : (10 : Int) ≤ ((wrap64 (10 + (wrap64 (t216)))) : Int) := of_decide_eq_true (by first | (with_reducible assumption) | assumption)
                                          have hcut39 := cut_mid (P := Try.prog) 26 5 .i64 .i64 Try.underlying26 hi039 1 hsz39 (some ad222) l0.length c0 10 (wrap64 (10 + (wrap64 (t216)))) (by omega) ql39 q39 hroom39
                                          have hr39 := Kd.C_mid (lo := (10 : Int).toNat) (hi := ((wrap64 (10 + (wrap64 (t216)))) : Int).toNat) (c := c0) hC39 (by omega) (by omega) hroom39
                                          obtain ⟨A39, hA39⟩ : ∃ A1, A1 = (if c0 = (10 : Int).toNat then (some ad222) else ((some ad222) : Option Addr).map (·.add ((10 : Int).toNat * 1))) := ⟨_, rfl⟩
                                          obtain ⟨c39, hc39⟩ : ∃ c1, c1 = c0 - (10 : Int).toNat := ⟨_, rfl⟩
                                          have hy39 : y224.length = ((wrap64 (10 + (wrap64 (t216)))) : Int).toNat - (10 : Int).toNat := (by rw [Ny224.out, List.length_drop, List.length_take] <;> omega)
                                          rw [show ((l0).take ((wrap64 (10 + (wrap64 (t216)))) : Int).toNat).drop (10 : Int).toNat = y224 from Ny224.out.symm] at hr39
                                          replace hr39 : Kd.C (Kd.int .u8) _ A39 y224.length y224 := (by rw [hA39]; exact hr39)
                                          rw [← hy39, ← hA39, ← hc39] at hcut39
                                          have HR227 := Aside0.mk hr39
                                          have HC227 := Aside0.mk (show y224.length ≤ c39 from by rw [hy39, hc39]; exact Nat.sub_le_sub_right (Nat.le_trans (by omega) hroom39) _)
                                          clear hr39 hC39 hroom39 hi039 hsz39 hc39
                                          have KY39 := Aside0.mk hy39
                                          have KA39 := Aside0.mk hA39
                                          clear hy39 hA39
                                          (try simp only [hji22] at hcut39)
                                          replace q39 := eq_true q39
                                          refine start_ (n := 20) (S := fun w' => w'.cell? ⟨ad222.block, ad222.off + 2, none⟩ = some (.int .u8 (rd l0 2)) ∧ w'.cell? ⟨ad222.block, ad222.off + 3, none⟩ = some (.int .u8 (rd l0 3)) ∧ Sem.run Try.prog (convert 26 9 (.slice A39 y224.length c39)) w' = .ok (.string (strOfNums y224)) w') (ds := []) #[false, false, false, false, false, false, false, false, false, false, false, false, false, false, false, false, false, false, false, false] (by kernel_rfl) rfl rfl ⟨((HB.out.cell (World.block_lt_of_cell? w _ hw222_0)).trans hw222_0), ((HB.out.cell (World.block_lt_of_cell? w _ hw223_0)).trans hw223_0), (Kd.C_string (P := Try.prog) (A := A39) (c := c39) Try.underlying26 Try.underlying5 Try.underlying9 (Kd.C_below HR227.out (by repeat (first | (with_reducible first | exact HB.out | apply below_alloc | apply pw_below_drewN | apply below_drew1 | refine below_set ?_ GE204.out) | exact HB.out))))⟩ (fun hHeld => ?_); refine with_tabW frame_ReadData.tab14 frame_ReadData.bits14 (fun HT_ HW_ => ?_)
                                          generalize wr.drew = w38 at BK204 HB HR227 hx222_0 hx223_0 hHeld ⊢
                                          refine pure_ (i := 0) (N := some 63) (v := ?_) (a' := ?_) #[true, false, false, false, false, false, false, false, false, false, false, false, false, false, false, false, false, false, false, false] rfl rfl (any_of HT_.out (by kernel_rfl)) (fun _ _ _ h => h) (Or.inl ⟨by rfl, ?_⟩) ?_ ?_
                                          rotate_left
                                          · intro w'
                                            go_simp
                                            with_reducible rfl
                                          rotate_left
                                          · simp only [Act.put, List.setIfInBounds_toArray, List.set_cons_zero, List.set_cons_succ, i64_w, i32_w]
                                            rfl
                                          refine pure_ (i := 1) (N := some 64) (v := ?_) (a' := ?_) #[true, true, false, false, false, false, false, false, false, false, false, false, false, false, false, false, false, false, false, false] rfl rfl (any_of HT_.out (by kernel_rfl)) (fun _ _ _ h => h) (Or.inl ⟨by rfl, ?_⟩) ?_ ?_
                                          rotate_left
                                          · intro w'
                                            go_simp
                                            with_reducible rfl
                                          rotate_left
                                          · simp only [Act.put, List.setIfInBounds_toArray, List.set_cons_zero, List.set_cons_succ, i64_w, i32_w]
                                            rfl
                                          refine pure_ (i := 4) (N := some 67) (v := ?_) (a' := ?_) #[true, true, false, false, true, false, false, false, false, false, false, false, false, false, false, false, false, false, false, false] rfl rfl (any_of HT_.out (by kernel_rfl)) (fun _ _ _ h => h) (Or.inl ⟨by rfl, ?_⟩) ?_ ?_
                                          rotate_left
                                          · intro w'
                                            go_simp
                                            with_reducible rfl
                                          rotate_left
                                          · simp only [Act.put, List.setIfInBounds_toArray, List.set_cons_zero, List.set_cons_succ, i64_w, i32_w]
                                            rfl
                                          refine pure_ (i := 5) (N := some 68) (v := ?_) (a' := ?_) #[true, true, false, false, true, true, false, false, false, false, false, false, false, false, false, false, false, false, false, false] rfl rfl (any_of HT_.out (by kernel_rfl)) (fun _ _ _ h => h) (Or.inl ⟨by rfl, ?_⟩) ?_ ?_
                                          rotate_left
                                          · intro w'
                                            go_simp
                                            with_reducible rfl
                                          rotate_left
                                          · simp only [Act.put, List.setIfInBounds_toArray, List.set_cons_zero, List.set_cons_succ, i64_w, i32_w]
                                            rfl
                                          refine pure_ (i := 8) (N := some 71) (v := ?_) (a' := ?_) #[true, true, false, false, true, true, false, false, true, false, false, false, false, false, false, false, false, false, false, false] rfl rfl (any_of HT_.out (by kernel_rfl)) (fun _ _ _ h => h) (Or.inl ⟨by rfl, ?_⟩) ?_ ?_
                                          rotate_left
                                          · intro w'
                                            go_simp
                                            with_reducible rfl
                                          rotate_left
                                          · simp only [Act.put, List.setIfInBounds_toArray, List.set_cons_zero, List.set_cons_succ, i64_w, i32_w]
                                            rfl
                                          refine pure_ (i := 9) (N := some 72) (v := ?_) (a' := ?_) #[true, true, false, false, true, true, false, false, true, true, false, false, false, false, false, false, false, false, false, false] rfl rfl (any_of HT_.out (by kernel_rfl)) (fun _ _ _ h => h) (Or.inl ⟨by rfl, ?_⟩) ?_ ?_
                                          rotate_left
                                          · intro w'
                                            go_simp
                                            with_reducible rfl
                                          rotate_left
                                          · simp only [Act.put, List.setIfInBounds_toArray, List.set_cons_zero, List.set_cons_succ, i64_w, i32_w]
                                            rfl
                                          refine pure_ (i := 10) (N := some 73) (v := ?_) (a' := ?_) #[true, true, false, false, true, true, false, false, true, true, true, false, false, false, false, false, false, false, false, false] rfl rfl (any_of HT_.out (by kernel_rfl)) (fun _ _ _ h => h) (Or.inl ⟨by rfl, ?_⟩) ?_ ?_
                                          rotate_left
                                          · intro w'
                                            go_simp
                                            with_reducible rfl
                                          rotate_left
                                          · simp only [Act.put, List.setIfInBounds_toArray, List.set_cons_zero, List.set_cons_succ, i64_w, i32_w]
                                            rfl
                                          refine pure_ (i := 11) (N := some 74) (v := ?_) (a' := ?_) #[true, true, false, false, true, true, false, false, true, true, true, true, false, false, false, false, false, false, false, false] rfl rfl (any_of HT_.out (by kernel_rfl)) (fun _ _ _ h => h) (Or.inl ⟨by rfl, ?_⟩) ?_ ?_
                                          rotate_left
                                          · intro w'
                                            go_simp
                                            with_reducible rfl
                                          rotate_left
                                          · simp only [Act.put, List.setIfInBounds_toArray, List.set_cons_zero, List.set_cons_succ, i64_w, i32_w]
                                            rfl
                                          refine pure_ (i := 12) (N := some 75) (v := ?_) (a' := ?_) #[true, true, false, false, true, true, false, false, true, true, true, true, true, false, false, false, false, false, false, false] rfl rfl (any_of HT_.out (by kernel_rfl)) (fun _ _ _ h => h) (Or.inl ⟨by rfl, ?_⟩) ?_ ?_
                                          rotate_left
                                          · intro w'
                                            go_simp
                                            with_reducible rfl
                                          rotate_left
                                          · simp only [Act.put, List.setIfInBounds_toArray, List.set_cons_zero, List.set_cons_succ, i64_w, i32_w]
                                            rfl
                                          refine pure_ (i := 13) (N := some 76) (v := ?_) (a' := ?_) #[true, true, false, false, true, true, false, false, true, true, true, true, true, true, false, false, false, false, false, false] rfl rfl (any_of HT_.out (by kernel_rfl)) (fun _ _ _ h => h) (Or.inl ⟨by rfl, ?_⟩) ?_ ?_
                                          rotate_left
                                          · intro w'
                                            go_simp
                                            with_reducible rfl
                                          rotate_left
                                          · simp only [Act.put, List.setIfInBounds_toArray, List.set_cons_zero, List.set_cons_succ, i64_w, i32_w]
                                            rfl
                                          refine pure_ (i := 15) (N := some 78) (v := ?_) (a' := ?_) #[true, true, false, false, true, true, false, false, true, true, true, true, true, true, false, true, false, false, false, false] rfl rfl (any_of HT_.out (by kernel_rfl)) (fun _ _ _ h => h) (Or.inl ⟨by rfl, ?_⟩) ?_ ?_
                                          rotate_left
                                          · intro w'
                                            go_simp
                                            with_reducible rfl
                                          rotate_left
                                          · simp only [Act.put, List.setIfInBounds_toArray, List.set_cons_zero, List.set_cons_succ, i64_w, i32_w]
                                            rfl
                                          refine pure_ (i := 16) (N := some 79) (v := ?_) (a' := ?_) #[true, true, false, false, true, true, false, false, true, true, true, true, true, true, false, true, true, false, false, false] rfl rfl (any_of HT_.out (by kernel_rfl)) (fun _ _ _ h => h) (Or.inl ⟨by rfl, ?_⟩) ?_ ?_
                                          rotate_left
                                          · intro w'
                                            go_simp
                                            with_reducible rfl
                                          rotate_left
                                          · simp only [Act.put, List.setIfInBounds_toArray, List.set_cons_zero, List.set_cons_succ, i64_w, i32_w]
                                            rfl
                                          refine take_ (i := 2) (N := some 65) (v := ?_) (a' := ?_) #[true, true, true, false, true, true, false, false, true, true, true, true, true, true, false, true, true, false, false, false] rfl rfl (take_ofW HT_.out HW_.out (by kernel_rfl)) (fun _ _ _ h => h) (Or.inl ⟨by rfl, ?_⟩) hHeld ?_ ?_
                                          rotate_left
                                          · rintro w' ⟨s0, s1, s2⟩
                                            go_simp
                                            with_reducible rfl
                                          rotate_left
                                          · simp only [Act.put, List.setIfInBounds_toArray, List.set_cons_zero, List.set_cons_succ, i64_w, i32_w]
                                            rfl
                                          refine pure_ (i := 3) (N := some 66) (v := ?_) (a' := ?_) #[true, true, true, true, true, true, false, false, true, true, true, true, true, true, false, true, true, false, false, false] rfl rfl (any_of HT_.out (by kernel_rfl)) (fun _ _ _ h => h) (Or.inl ⟨by rfl, ?_⟩) ?_ ?_
                                          rotate_left
                                          · intro w'
                                            go_simp
                                            with_reducible rfl
                                          rotate_left
                                          · simp only [Act.put, List.setIfInBounds_toArray, List.set_cons_zero, List.set_cons_succ, i64_w, i32_w]
                                            rfl
                                          refine take_ (i := 6) (N := some 69) (v := ?_) (a' := ?_) #[true, true, true, true, true, true, true, false, true, true, true, true, true, true, false, true, true, false, false, false] rfl rfl (take_ofW HT_.out HW_.out (by kernel_rfl)) (fun _ _ _ h => h) (Or.inl ⟨by rfl, ?_⟩) hHeld ?_ ?_
                                          rotate_left
                                          · rintro w' ⟨s0, s1, s2⟩
                                            go_simp
                                            with_reducible rfl
                                          rotate_left
                                          · simp only [Act.put, List.setIfInBounds_toArray, List.set_cons_zero, List.set_cons_succ, i64_w, i32_w]
                                            rfl
                                          refine pure_ (i := 7) (N := some 70) (v := ?_) (a' := ?_) #[true, true, true, true, true, true, true, true, true, true, true, true, true, true, false, true, true, false, false, false] rfl rfl (any_of HT_.out (by kernel_rfl)) (fun _ _ _ h => h) (Or.inl ⟨by rfl, ?_⟩) ?_ ?_
                                          rotate_left
                                          · intro w'
                                            go_simp
                                            with_reducible rfl
                                          rotate_left
                                          · simp only [Act.put, List.setIfInBounds_toArray, List.set_cons_zero, List.set_cons_succ, i64_w, i32_w]
                                            rfl
                                          refine take_ (i := 14) (N := some 77) (v := ?_) (a' := ?_) #[true, true, true, true, true, true, true, true, true, true, true, true, true, true, true, true, true, false, false, false] rfl rfl (take_ofW HT_.out HW_.out (by kernel_rfl)) (fun _ _ _ h => h) (Or.inl ⟨by rfl, ?_⟩) hHeld ?_ ?_
                                          rotate_left
                                          · rintro w' ⟨s0, s1, s2⟩
                                            go_simp
                                            with_reducible rfl
                                          rotate_left
                                          · simp only [Act.put, List.setIfInBounds_toArray, List.set_cons_zero, List.set_cons_succ, i64_w, i32_w]
                                            rfl
                                          refine pure_ (i := 17) (N := some 80) (v := ?_) (a' := ?_) #[true, true, true, true, true, true, true, true, true, true, true, true, true, true, true, true, true, true, false, false] rfl rfl (any_of HT_.out (by kernel_rfl)) (fun _ _ _ h => h) (Or.inl ⟨by rfl, ?_⟩) ?_ ?_
                                          rotate_left
                                          · intro w'
                                            go_simp
                                            with_reducible rfl
                                          rotate_left
                                          · simp only [Act.put, List.setIfInBounds_toArray, List.set_cons_zero, List.set_cons_succ, i64_w, i32_w]
                                            rfl
                                          refine one_ (i := 18) (N := some 8) #[true, true, true, true, true, true, true, true, true, true, true, true, true, true, true, true, true, true, true, false] rfl rfl (one_of HT_.out (by kernel_rfl)) (by decide) (fun K hK => ?_)
                                          refine box_step ?hg (N := 8) ?hd (cs := #[.int .i64 0, .int .i64 0, .int .i64 0, .string (⟨#[]⟩ : ByteArray), .int .i64 0]) (t := 36) ?hr ?_; (case hd => rfl); (case hg => rfl); (case hr => first | (go_simp; done) | (go_simp; rfl))
                                          intro gb228 hg w40 hbox hb
                                          have n0_ := Aside0.mk (blk_below (g := gb204) (o := .cells #[.int .i64 x205000_3, .int .i64 x205001_3, .int .i64 x205002_3, .string x205003_3, .int .i64 x205004_3] 36 (0, 0)) (by (with_reducible repeat (first | refine blk_drewN ?_ _ | refine blk_drew ?_ | refine blk_alloc ?_ _)); exact BK204.out) hb)
                                          have n1_ := Aside0.mk (below_step (by repeat (first | (with_reducible first | exact HB.out | apply below_alloc | apply pw_below_drewN | apply below_drew1 | refine below_set ?_ GE204.out) | exact HB.out)) hb)
                                          have n2_ := Aside0.mk (hbox)
                                          have n3_ := Aside0.mk ((by rw [hg]; exact (below_size (by repeat (first | (with_reducible first | exact HB.out | apply below_alloc | apply pw_below_drewN | apply below_drew1 | refine below_set ?_ GE204.out) | exact HB.out))) : w.heap.size ≤ gb228))
                                          have n4_ := Aside0.mk ((by rw [hg]; exact (below_size (by repeat (first | (with_reducible first | exact HB.out | apply below_alloc | apply pw_below_drewN | apply below_drew1 | refine below_set ?_ GE204.out) | exact HB.out))) : w.heap.size ≤ gb228))
                                          have n5_ := Aside0.mk ((by rw [hg]; exact Nat.ne_of_lt (blk_lt (g := gb204) (o := .cells #[.int .i64 x205000_3, .int .i64 x205001_3, .int .i64 x205002_3, .string x205003_3, .int .i64 x205004_3] 36 (0, 0)) (by (with_reducible repeat (first | refine blk_drewN ?_ _ | refine blk_drew ?_ | refine blk_alloc ?_ _)); exact BK204.out)) : gb204 ≠ gb228))
                                          have n6_ := Aside0.mk ((by rw [hg]; exact Nat.ne_of_gt (blk_lt (g := gb204) (o := .cells #[.int .i64 x205000_3, .int .i64 x205001_3, .int .i64 x205002_3, .string x205003_3, .int .i64 x205004_3] 36 (0, 0)) (by (with_reducible repeat (first | refine blk_drewN ?_ _ | refine blk_drew ?_ | refine blk_alloc ?_ _)); exact BK204.out)) : gb228 ≠ gb204))
                                          clear BK204
                                          clear HB
                                          have BK204 := n0_
                                          have HB := n1_
                                          have BK228 := n2_
                                          have GW228 := n3_
                                          have GE228 := n4_
                                          have NB204_228 := n5_
                                          have NB228_204 := n6_
                                          clear n0_ n1_ n2_ n3_ n4_ n5_ n6_
                                          clear hb hbox hg
                                          refine hK.out _ _ ⟨((HB.out.cell (World.block_lt_of_cell? w _ hw222_0)).trans hw222_0), ((HB.out.cell (World.block_lt_of_cell? w _ hw223_0)).trans hw223_0), (Kd.C_string (P := Try.prog) (A := A39) (c := c39) Try.underlying26 Try.underlying5 Try.underlying9 (Kd.C_below HR227.out (by repeat (first | (with_reducible first | exact HB.out | apply below_alloc | apply pw_below_drewN | apply below_drew1 | refine below_set ?_ GE204.out) | exact HB.out))))⟩ (fun hHeld => ?_)
                                          clear hK K
                                          refine norm_ (a' := ?_) ?_ ?_
                                          rotate_left
                                          · show Act.put _ (some 8) _ = _
                                            simp only [Act.put, List.setIfInBounds_toArray, List.set_cons_zero, List.set_cons_succ, i64_w, i32_w]
                                            rfl
                                          refine one_ (i := 19) (N := none) #[true, true, true, true, true, true, true, true, true, true, true, true, true, true, true, true, true, true, true, true] rfl rfl (one_of HT_.out (by kernel_rfl)) (by decide) (fun K hK => ?_)
                                          have hs41 : World.cell? _ ⟨gb228, 0, none⟩ = some (.int .i64 0) := (blk_cell BK228.out 0).trans rfl
                                          have hfs41 := blk_frozen BK228.out 0
                                          have hns41_0 := NB204_228.out
                                          have hms41_0 := NB228_204.out
                                          have hs42 : World.cell? _ ⟨gb228, 1, none⟩ = some (.int .i64 0) := (blk_cell BK228.out 1).trans rfl
                                          have hfs42 := blk_frozen BK228.out 1
                                          have hns42_0 := NB204_228.out
                                          have hms42_0 := NB228_204.out
                                          have hs43 : World.cell? _ ⟨gb228, 2, none⟩ = some (.int .i64 0) := (blk_cell BK228.out 2).trans rfl
                                          have hfs43 := blk_frozen BK228.out 2
                                          have hns43_0 := NB204_228.out
                                          have hms43_0 := NB228_204.out
                                          have hs44 : World.cell? _ ⟨gb228, 3, none⟩ = some (.string (⟨#[]⟩ : ByteArray)) := (blk_cell BK228.out 3).trans rfl
                                          have hfs44 := blk_frozen BK228.out 3
                                          have hns44_0 := NB204_228.out
                                          have hms44_0 := NB228_204.out
                                          have hs45 : World.cell? _ ⟨gb228, 4, none⟩ = some (.int .i64 0) := (blk_cell BK228.out 4).trans rfl
                                          have hfs45 := blk_frozen BK228.out 4
                                          have hns45_0 := NB204_228.out
                                          have hms45_0 := NB228_204.out
                                          refine skip_ (w1 := ?_) (by rfl) rfl ?_ ?_
                                          rotate_left
                                          · go_simp
                                            rfl
                                          refine hK.out _ _ ⟨((cell_far (p := ⟨gb228, _, none⟩) (by first | exact Nat.ne_of_lt (Nat.lt_of_lt_of_le (by have := World.block_lt_of_cell? _ _ hw222_0; first | rwa [add_block] at this | exact this) GW228.out) | (rw [add_block]; exact Nat.ne_of_lt (Nat.lt_of_lt_of_le (by have := World.block_lt_of_cell? _ _ hw222_0; first | rwa [add_block] at this | exact this) GW228.out)) | (show (Addr.add _ _).block ≠ _; rw [add_block]; exact Nat.ne_of_lt (Nat.lt_of_lt_of_le (by have := World.block_lt_of_cell? _ _ hw222_0; first | rwa [add_block] at this | exact this) GW228.out)) | (dsimp only; exact Nat.ne_of_lt (Nat.lt_of_lt_of_le (by have := World.block_lt_of_cell? _ _ hw222_0; first | rwa [add_block] at this | exact this) GW228.out))) _).trans (((cell_far (p := ⟨gb228, _, none⟩) (by first | exact Nat.ne_of_lt (Nat.lt_of_lt_of_le (by have := World.block_lt_of_cell? _ _ hw222_0; first | rwa [add_block] at this | exact this) GW228.out) | (rw [add_block]; exact Nat.ne_of_lt (Nat.lt_of_lt_of_le (by have := World.block_lt_of_cell? _ _ hw222_0; first | rwa [add_block] at this | exact this) GW228.out)) | (show (Addr.add _ _).block ≠ _; rw [add_block]; exact Nat.ne_of_lt (Nat.lt_of_lt_of_le (by have := World.block_lt_of_cell? _ _ hw222_0; first | rwa [add_block] at this | exact this) GW228.out)) | (dsimp only; exact Nat.ne_of_lt (Nat.lt_of_lt_of_le (by have := World.block_lt_of_cell? _ _ hw222_0; first | rwa [add_block] at this | exact this) GW228.out))) _).trans (((cell_far (p := ⟨gb228, _, none⟩) (by first | exact Nat.ne_of_lt (Nat.lt_of_lt_of_le (by have := World.block_lt_of_cell? _ _ hw222_0; first | rwa [add_block] at this | exact this) GW228.out) | (rw [add_block]; exact Nat.ne_of_lt (Nat.lt_of_lt_of_le (by have := World.block_lt_of_cell? _ _ hw222_0; first | rwa [add_block] at this | exact this) GW228.out)) | (show (Addr.add _ _).block ≠ _; rw [add_block]; exact Nat.ne_of_lt (Nat.lt_of_lt_of_le (by have := World.block_lt_of_cell? _ _ hw222_0; first | rwa [add_block] at this | exact this) GW228.out)) | (dsimp only; exact Nat.ne_of_lt (Nat.lt_of_lt_of_le (by have := World.block_lt_of_cell? _ _ hw222_0; first | rwa [add_block] at this | exact this) GW228.out))) _).trans (((cell_far (p := ⟨gb228, _, none⟩) (by first | exact Nat.ne_of_lt (Nat.lt_of_lt_of_le (by have := World.block_lt_of_cell? _ _ hw222_0; first | rwa [add_block] at this | exact this) GW228.out) | (rw [add_block]; exact Nat.ne_of_lt (Nat.lt_of_lt_of_le (by have := World.block_lt_of_cell? _ _ hw222_0; first | rwa [add_block] at this | exact this) GW228.out)) | (show (Addr.add _ _).block ≠ _; rw [add_block]; exact Nat.ne_of_lt (Nat.lt_of_lt_of_le (by have := World.block_lt_of_cell? _ _ hw222_0; first | rwa [add_block] at this | exact this) GW228.out)) | (dsimp only; exact Nat.ne_of_lt (Nat.lt_of_lt_of_le (by have := World.block_lt_of_cell? _ _ hw222_0; first | rwa [add_block] at this | exact this) GW228.out))) _).trans (((cell_far (p := ⟨gb228, _, none⟩) (by first | exact Nat.ne_of_lt (Nat.lt_of_lt_of_le (by have := World.block_lt_of_cell? _ _ hw222_0; first | rwa [add_block] at this | exact this) GW228.out) | (rw [add_block]; exact Nat.ne_of_lt (Nat.lt_of_lt_of_le (by have := World.block_lt_of_cell? _ _ hw222_0; first | rwa [add_block] at this | exact this) GW228.out)) | (show (Addr.add _ _).block ≠ _; rw [add_block]; exact Nat.ne_of_lt (Nat.lt_of_lt_of_le (by have := World.block_lt_of_cell? _ _ hw222_0; first | rwa [add_block] at this | exact this) GW228.out)) | (dsimp only; exact Nat.ne_of_lt (Nat.lt_of_lt_of_le (by have := World.block_lt_of_cell? _ _ hw222_0; first | rwa [add_block] at this | exact this) GW228.out))) _).trans (hHeld.1)))))))))), ((cell_far (p := ⟨gb228, _, none⟩) (by first | exact Nat.ne_of_lt (Nat.lt_of_lt_of_le (by have := World.block_lt_of_cell? _ _ hw223_0; first | rwa [add_block] at this | exact this) GW228.out) | (rw [add_block]; exact Nat.ne_of_lt (Nat.lt_of_lt_of_le (by have := World.block_lt_of_cell? _ _ hw223_0; first | rwa [add_block] at this | exact this) GW228.out)) | (show (Addr.add _ _).block ≠ _; rw [add_block]; exact Nat.ne_of_lt (Nat.lt_of_lt_of_le (by have := World.block_lt_of_cell? _ _ hw223_0; first | rwa [add_block] at this | exact this) GW228.out)) | (dsimp only; exact Nat.ne_of_lt (Nat.lt_of_lt_of_le (by have := World.block_lt_of_cell? _ _ hw223_0; first | rwa [add_block] at this | exact this) GW228.out))) _).trans (((cell_far (p := ⟨gb228, _, none⟩) (by first | exact Nat.ne_of_lt (Nat.lt_of_lt_of_le (by have := World.block_lt_of_cell? _ _ hw223_0; first | rwa [add_block] at this | exact this) GW228.out) | (rw [add_block]; exact Nat.ne_of_lt (Nat.lt_of_lt_of_le (by have := World.block_lt_of_cell? _ _ hw223_0; first | rwa [add_block] at this | exact this) GW228.out)) | (show (Addr.add _ _).block ≠ _; rw [add_block]; exact Nat.ne_of_lt (Nat.lt_of_lt_of_le (by have := World.block_lt_of_cell? _ _ hw223_0; first | rwa [add_block] at this | exact this) GW228.out)) | (dsimp only; exact Nat.ne_of_lt (Nat.lt_of_lt_of_le (by have := World.block_lt_of_cell? _ _ hw223_0; first | rwa [add_block] at this | exact this) GW228.out))) _).trans (((cell_far (p := ⟨gb228, _, none⟩) (by first | exact Nat.ne_of_lt (Nat.lt_of_lt_of_le (by have := World.block_lt_of_cell? _ _ hw223_0; first | rwa [add_block] at this | exact this) GW228.out) | (rw [add_block]; exact Nat.ne_of_lt (Nat.lt_of_lt_of_le (by have := World.block_lt_of_cell? _ _ hw223_0; first | rwa [add_block] at this | exact this) GW228.out)) | (show (Addr.add _ _).block ≠ _; rw [add_block]; exact Nat.ne_of_lt (Nat.lt_of_lt_of_le (by have := World.block_lt_of_cell? _ _ hw223_0; first | rwa [add_block] at this | exact this) GW228.out)) | (dsimp only; exact Nat.ne_of_lt (Nat.lt_of_lt_of_le (by have := World.block_lt_of_cell? _ _ hw223_0; first | rwa [add_block] at this | exact this) GW228.out))) _).trans (((cell_far (p := ⟨gb228, _, none⟩) (by first | exact Nat.ne_of_lt (Nat.lt_of_lt_of_le (by have := World.block_lt_of_cell? _ _ hw223_0; first | rwa [add_block] at this | exact this) GW228.out) | (rw [add_block]; exact Nat.ne_of_lt (Nat.lt_of_lt_of_le (by have := World.block_lt_of_cell? _ _ hw223_0; first | rwa [add_block] at this | exact this) GW228.out)) | (show (Addr.add _ _).block ≠ _; rw [add_block]; exact Nat.ne_of_lt (Nat.lt_of_lt_of_le (by have := World.block_lt_of_cell? _ _ hw223_0; first | rwa [add_block] at this | exact this) GW228.out)) | (dsimp only; exact Nat.ne_of_lt (Nat.lt_of_lt_of_le (by have := World.block_lt_of_cell? _ _ hw223_0; first | rwa [add_block] at this | exact this) GW228.out))) _).trans (((cell_far (p := ⟨gb228, _, none⟩) (by first | exact Nat.ne_of_lt (Nat.lt_of_lt_of_le (by have := World.block_lt_of_cell? _ _ hw223_0; first | rwa [add_block] at this | exact this) GW228.out) | (rw [add_block]; exact Nat.ne_of_lt (Nat.lt_of_lt_of_le (by have := World.block_lt_of_cell? _ _ hw223_0; first | rwa [add_block] at this | exact this) GW228.out)) | (show (Addr.add _ _).block ≠ _; rw [add_block]; exact Nat.ne_of_lt (Nat.lt_of_lt_of_le (by have := World.block_lt_of_cell? _ _ hw223_0; first | rwa [add_block] at this | exact this) GW228.out)) | (dsimp only; exact Nat.ne_of_lt (Nat.lt_of_lt_of_le (by have := World.block_lt_of_cell? _ _ hw223_0; first | rwa [add_block] at this | exact this) GW228.out))) _).trans (hHeld.2.1)))))))))), (Kd.C_string (P := Try.prog) (A := A39) (c := c39) Try.underlying26 Try.underlying5 Try.underlying9 (Kd.C_below HR227.out (by repeat (first | (with_reducible first | exact (below_set (below_set (below_set (below_set (below_set HB.out GE228.out) GE228.out) GE228.out) GE228.out) GE228.out) | apply below_alloc | apply pw_below_drewN | apply below_drew1 | refine below_set ?_ GE204.out) | exact (below_set (below_set (below_set (below_set (below_set HB.out GE228.out) GE228.out) GE228.out) GE228.out) GE228.out)))))⟩ (fun hHeld => ?_)
                                          clear hK K
                                          refine done_ (done_of HT_.out (by kernel_rfl)) ?_
                                          have hnb46 := NB228_204.out
                                          have hnc46 := NB204_228.out
                                          have hcz47_0 : World.cell? _ ⟨gb228, 0, none⟩ = some (.int .i64 0) := (blk_cell BK228.out 0).trans rfl
                                          have hcz47_1 : World.cell? _ ⟨gb228, 1, none⟩ = some (.int .i64 0) := (blk_cell BK228.out 1).trans rfl
                                          have hcz47_2 : World.cell? _ ⟨gb228, 2, none⟩ = some (.int .i64 0) := (blk_cell BK228.out 2).trans rfl
                                          have hcz47_3 : World.cell? _ ⟨gb228, 3, none⟩ = some (.string (⟨#[]⟩ : ByteArray)) := (blk_cell BK228.out 3).trans rfl
                                          have hcz47_4 : World.cell? _ ⟨gb228, 4, none⟩ = some (.int .i64 0) := (blk_cell BK228.out 4).trans rfl
                                          have hfz47_0 := blk_frozen BK228.out 0
                                          have hfz47_1 := blk_frozen BK228.out 1
                                          have hfz47_2 := blk_frozen BK228.out 2
                                          have hfz47_3 := blk_frozen BK228.out 3
                                          have hfz47_4 := blk_frozen BK228.out 4
                                          try go_wp2_with (first | ((with_reducible refine gate_callee (f := 34) rfl ?_); refine goesL_ (some 82) rfl rfl Try.func34 (by kernel_rfl) rfl #[.agg #[.int .i64 (wrap64 (rd l0 2)), .int .i64 (wrap64 (rd l0 3)), .int .i64 (wrap64 (t211)), .string (strOfNums y224), .int .i64 (l0.length : Int)]] rfl (by (try simp only [List.map_toArray, List.map_cons, List.map_nil]); first | done | rfl | (simp only [List.length_drop, List.length_take]; rfl)) ?_; (with_reducible refine (frame_rightData.calls (wrap64 (rd l0 2)) (wrap64 (rd l0 3)) (wrap64 (t211)) (strOfNums y224) (l0.length : Int) true _ A36.out).mono ?_); rintro e w48 ⟨rfl, hb⟩; refine ⟨_, rfl, ?_⟩; have n0_ := Aside0.mk (blk_below (g := gb204) (o := .cells #[.int .i64 x205000_3, .int .i64 x205001_3, .int .i64 x205002_3, .string x205003_3, .int .i64 x205004_3] 36 (0, 0)) (by (with_reducible repeat (first | refine blk_drewN ?_ _ | refine blk_drew ?_ | refine blk_alloc ?_ _)); refine blk_far ?_ NB204_228.out _; (with_reducible repeat (first | refine blk_drewN ?_ _ | refine blk_drew ?_ | refine blk_alloc ?_ _)); refine blk_far ?_ NB204_228.out _; (with_reducible repeat (first | refine blk_drewN ?_ _ | refine blk_drew ?_ | refine blk_alloc ?_ _)); refine blk_far ?_ NB204_228.out _; (with_reducible repeat (first | refine blk_drewN ?_ _ | refine blk_drew ?_ | refine blk_alloc ?_ _)); refine blk_far ?_ NB204_228.out _; (with_reducible repeat (first | refine blk_drewN ?_ _ | refine blk_drew ?_ | refine blk_alloc ?_ _)); refine blk_far ?_ NB204_228.out _; (with_reducible repeat (first | refine blk_drewN ?_ _ | refine blk_drew ?_ | refine blk_alloc ?_ _)); exact BK204.out) hb); have n1_ := Aside0.mk (blk_below (g := gb228) (o := .cells #[.int .i64 (wrap64 (rd l0 2)), .int .i64 (wrap64 (rd l0 3)), .int .i64 (wrap64 (t211)), .string (strOfNums y224), .int .i64 (l0.length : Int)] 36 (0, 0)) (by (with_reducible repeat (first | refine blk_drewN ?_ _ | refine blk_drew ?_ | refine blk_alloc ?_ _)); refine blk_put (cs := #[.int .i64 (wrap64 (rd l0 2)), .int .i64 (wrap64 (rd l0 3)), .int .i64 (wrap64 (t211)), .string (strOfNums y224), .int .i64 0]) ?_ 4 _ rfl; (with_reducible repeat (first | refine blk_drewN ?_ _ | refine blk_drew ?_ | refine blk_alloc ?_ _)); refine blk_put (cs := #[.int .i64 (wrap64 (rd l0 2)), .int .i64 (wrap64 (rd l0 3)), .int .i64 (wrap64 (t211)), .string (⟨#[]⟩ : ByteArray), .int .i64 0]) ?_ 3 _ rfl; (with_reducible repeat (first | refine blk_drewN ?_ _ | refine blk_drew ?_ | refine blk_alloc ?_ _)); refine blk_put (cs := #[.int .i64 (wrap64 (rd l0 2)), .int .i64 (wrap64 (rd l0 3)), .int .i64 0, .string (⟨#[]⟩ : ByteArray), .int .i64 0]) ?_ 2 _ rfl; (with_reducible repeat (first | refine blk_drewN ?_ _ | refine blk_drew ?_ | refine blk_alloc ?_ _)); refine blk_put (cs := #[.int .i64 (wrap64 (rd l0 2)), .int .i64 0, .int .i64 0, .string (⟨#[]⟩ : ByteArray), .int .i64 0]) ?_ 1 _ rfl; (with_reducible repeat (first | refine blk_drewN ?_ _ | refine blk_drew ?_ | refine blk_alloc ?_ _)); refine blk_put (cs := #[.int .i64 0, .int .i64 0, .int .i64 0, .string (⟨#[]⟩ : ByteArray), .int .i64 0]) ?_ 0 _ rfl; (with_reducible repeat (first | refine blk_drewN ?_ _ | refine blk_drew ?_ | refine blk_alloc ?_ _)); exact BK228.out) hb); have n2_ := Aside0.mk (below_step (by repeat (first | (with_reducible first | exact HB.out | apply below_alloc | apply pw_below_drewN | apply below_drew1 | refine below_set ?_ GE204.out | refine below_set ?_ GE228.out) | exact HB.out)) hb); clear BK204; clear BK228; clear HB; have BK204 := n0_; have BK228 := n1_; have HB := n2_; clear n0_ n1_ n2_; (try clear hb); (try clear hb2); (try clear hk); (try clear hi); have hcz49_0 : World.cell? _ ⟨gb228, 0, none⟩ = some (.int .i64 (wrap64 (rd l0 2))) := (blk_cell BK228.out 0).trans rfl; have hcz49_1 : World.cell? _ ⟨gb228, 1, none⟩ = some (.int .i64 (wrap64 (rd l0 3))) := (blk_cell BK228.out 1).trans rfl; have hcz49_2 : World.cell? _ ⟨gb228, 2, none⟩ = some (.int .i64 (wrap64 (t211))) := (blk_cell BK228.out 2).trans rfl; have hcz49_3 : World.cell? _ ⟨gb228, 3, none⟩ = some (.string (strOfNums y224)) := (blk_cell BK228.out 3).trans rfl; have hcz49_4 : World.cell? _ ⟨gb228, 4, none⟩ = some (.int .i64 (l0.length : Int)) := (blk_cell BK228.out 4).trans rfl; have hfz49_0 := blk_frozen BK228.out 0; have hfz49_1 := blk_frozen BK228.out 1; have hfz49_2 := blk_frozen BK228.out 2; have hfz49_3 := blk_frozen BK228.out 3; have hfz49_4 := blk_frozen BK228.out 4; have hcz50_0 : World.cell? _ ⟨gb204, 0, none⟩ = some (.int .i64 x205000_3) := (blk_cell BK204.out 0).trans rfl; have hcz50_1 : World.cell? _ ⟨gb204, 1, none⟩ = some (.int .i64 x205001_3) := (blk_cell BK204.out 1).trans rfl; have hcz50_2 : World.cell? _ ⟨gb204, 2, none⟩ = some (.int .i64 x205002_3) := (blk_cell BK204.out 2).trans rfl; have hcz50_3 : World.cell? _ ⟨gb204, 3, none⟩ = some (.string x205003_3) := (blk_cell BK204.out 3).trans rfl; have hcz50_4 : World.cell? _ ⟨gb204, 4, none⟩ = some (.int .i64 x205004_3) := (blk_cell BK204.out 4).trans rfl; have hfz50_0 := blk_frozen BK204.out 0; have hfz50_1 := blk_frozen BK204.out 1; have hfz50_2 := blk_frozen BK204.out 2; have hfz50_3 := blk_frozen BK204.out 3; have hfz50_4 := blk_frozen BK204.out 4))
                                          refine bodyPost_ret (results_ct rfl _ _ gb204 36 #[.int .i64 (wrap64 (rd l0 2)), .int .i64 (wrap64 (rd l0 3)), .int .i64 (wrap64 (t211)), .string (strOfNums y224), .int .i64 (l0.length : Int)] (0, 0) _ rfl (by (with_reducible repeat (first | refine blk_drewN ?_ _ | refine blk_drew ?_ | refine blk_alloc ?_ _)); refine blk_put (cs := #[.int .i64 (wrap64 (rd l0 2)), .int .i64 (wrap64 (rd l0 3)), .int .i64 (wrap64 (t211)), .string (strOfNums y224), .int .i64 x205004_3]) ?_ 4 _ rfl; (with_reducible repeat (first | refine blk_drewN ?_ _ | refine blk_drew ?_ | refine blk_alloc ?_ _)); refine blk_put (cs := #[.int .i64 (wrap64 (rd l0 2)), .int .i64 (wrap64 (rd l0 3)), .int .i64 (wrap64 (t211)), .string x205003_3, .int .i64 x205004_3]) ?_ 3 _ rfl; (with_reducible repeat (first | refine blk_drewN ?_ _ | refine blk_drew ?_ | refine blk_alloc ?_ _)); refine blk_put (cs := #[.int .i64 (wrap64 (rd l0 2)), .int .i64 (wrap64 (rd l0 3)), .int .i64 x205002_3, .string x205003_3, .int .i64 x205004_3]) ?_ 2 _ rfl; (with_reducible repeat (first | refine blk_drewN ?_ _ | refine blk_drew ?_ | refine blk_alloc ?_ _)); refine blk_put (cs := #[.int .i64 (wrap64 (rd l0 2)), .int .i64 x205001_3, .int .i64 x205002_3, .string x205003_3, .int .i64 x205004_3]) ?_ 1 _ rfl; (with_reducible repeat (first | refine blk_drewN ?_ _ | refine blk_drew ?_ | refine blk_alloc ?_ _)); refine blk_put (cs := #[.int .i64 x205000_3, .int .i64 x205001_3, .int .i64 x205002_3, .string x205003_3, .int .i64 x205004_3]) ?_ 0 _ rfl; (with_reducible repeat (first | refine blk_drewN ?_ _ | refine blk_drew ?_ | refine blk_alloc ?_ _)); exact BK204.out) Try.underlying36 rfl (by kernel_rfl)) rfl ?_
                                          exact ⟨by first | rfl | (simp [errW_none, errW_some] <;> rfl) | (simp only [← hji22]; first | rfl | (simp [errW_none, errW_some] <;> rfl)) | (simp [*, errW_none, errW_some] <;> rfl), by repeat (first | (with_reducible first | exact HB.out | apply below_alloc | apply pw_below_drewN | apply below_drew1 | refine below_set ?_ GE204.out | refine below_set ?_ GE228.out) | exact HB.out)⟩
                                        · replace c37 := Bool.eq_false_iff.mpr c37
                                          subst c37
                                          have H1 : (some (0, 0, 0, (⟨#[]⟩ : ByteArray), 0, 2)) = some (r1, r2, r3, r4, r5, r6) := by rw [if_neg (show ¬ (false = true) by decide)] at H; exact H
                                          clear H
                                          have H := H1
                                          clear H1
                                          simp only [Option.some.injEq, Prod.mk.injEq] at H
                                          obtain ⟨rfl, rfl, rfl, rfl, rfl, rfl⟩ := H
                                          try go_wp2
                                          have n0_ := Aside0.mk (blk_drew BK204.out)
                                          have n1_ := Aside0.mk (below_drew1 HB.out)
                                          clear BK204
                                          clear HB
                                          have BK204 := n0_
                                          have HB := n1_
                                          clear n0_ n1_
                                          have p222 : 0 ≤ (2 : Int) := (by omega)
                                          have q222 : 2 < (l0.length : Int) := of_decide_eq_true (by first | (with_reducible assumption) | assumption)
                                          obtain ⟨ad222, e222, hx222_0⟩ := Kd.at_int HR0.out 2 p222 q222
                                          have hw222_0 := hx222_0
                                          (try rw [show ((2 : Int)).toNat = 2 from rfl] at hw222_0)
                                          (try rw [show 2 * 1 = 2 from rfl] at hw222_0)
                                          (try simp only [Nat.reduceMul, Nat.reduceEqDiff, Go.Addr.add, ↓reduceIte] at hw222_0)
                                          cases e222
                                          (try simp only [show (2 : Int).toNat = 2 from rfl, Nat.reduceMul, Nat.reduceEqDiff, Go.Addr.add, ↓reduceIte] at hx222_0)
                                          have qi222 : (2 < l0.length) = True := eq_true (by omega)
                                          (try rw [show ((2 : Int)).toNat = 2 from rfl] at hx222_0)
                                          replace hx222_0 := (HB.out.cell (World.block_lt_of_cell? w _ hx222_0)).trans hx222_0
                                          replace p222 := eq_true p222
                                          replace q222 := eq_true q222
                                          have p223 : 0 ≤ (3 : Int) := (by omega)
                                          have q223 : 3 < (l0.length : Int) := of_decide_eq_true (by first | (with_reducible assumption) | assumption)
                                          obtain ⟨ad223, e223, hx223_0⟩ := Kd.at_int HR0.out 3 p223 q223
                                          have hw223_0 := hx223_0
                                          (try rw [show ((3 : Int)).toNat = 3 from rfl] at hw223_0)
                                          (try rw [show 3 * 1 = 3 from rfl] at hw223_0)
                                          (try simp only [Nat.reduceMul, Nat.reduceEqDiff, Go.Addr.add, ↓reduceIte] at hw223_0)
                                          obtain rfl : ad222 = ad223 := (by injection e223)
                                          (try simp only [show (3 : Int).toNat = 3 from rfl, Nat.reduceMul, Nat.reduceEqDiff, Go.Addr.add, ↓reduceIte] at hx223_0)
                                          have qi223 : (3 < l0.length) = True := eq_true (by omega)
                                          (try rw [show ((3 : Int)).toNat = 3 from rfl] at hx223_0)
                                          replace hx223_0 := (HB.out.cell (World.block_lt_of_cell? w _ hx223_0)).trans hx223_0
                                          replace p223 := eq_true p223
                                          replace q223 := eq_true q223
                                          have q52 : ((wrap64 (10 + (wrap64 (t216)))) : Int) ≤ ((l0.length : Int) : Int) := of_decide_eq_true (by first | (with_reducible assumption) | assumption)
                                          obtain ⟨i052, hi052, _, hsz52, _⟩ := info_parts info5
                                          have hroom52 : l0.length ≤ c0 := HC0.out
                                          have hC52 : Kd.C (Kd.int .u8) _ (some ad222) l0.length l0 := HR0.out
                                          have ql52 : (10 : Int) ≤ ((wrap64 (10 + (wrap64 (t216)))) : Int) := of_decide_eq_true (by first | (with_reducible assumption) | assumption)
                                          have hcut52 := cut_mid (P := Try.prog) 26 5 .i64 .i64 Try.underlying26 hi052 1 hsz52 (some ad222) l0.length c0 10 (wrap64 (10 + (wrap64 (t216)))) (by omega) ql52 q52 hroom52
                                          have hr52 := Kd.C_mid (lo := (10 : Int).toNat) (hi := ((wrap64 (10 + (wrap64 (t216)))) : Int).toNat) (c := c0) hC52 (by omega) (by omega) hroom52
                                          obtain ⟨A52, hA52⟩ : ∃ A1, A1 = (if c0 = (10 : Int).toNat then (some ad222) else ((some ad222) : Option Addr).map (·.add ((10 : Int).toNat * 1))) := ⟨_, rfl⟩
                                          obtain ⟨c52, hc52⟩ : ∃ c1, c1 = c0 - (10 : Int).toNat := ⟨_, rfl⟩
                                          have hy52 : y224.length = ((wrap64 (10 + (wrap64 (t216)))) : Int).toNat - (10 : Int).toNat := (by rw [Ny224.out, List.length_drop, List.length_take] <;> omega)
                                          rw [show ((l0).take ((wrap64 (10 + (wrap64 (t216)))) : Int).toNat).drop (10 : Int).toNat = y224 from Ny224.out.symm] at hr52
                                          replace hr52 : Kd.C (Kd.int .u8) _ A52 y224.length y224 := (by rw [hA52]; exact hr52)
                                          rw [← hy52, ← hA52, ← hc52] at hcut52
                                          have HR227 := Aside0.mk hr52
                                          have HC227 := Aside0.mk (show y224.length ≤ c52 from by rw [hy52, hc52]; exact Nat.sub_le_sub_right (Nat.le_trans (by omega) hroom52) _)
                                          clear hr52 hC52 hroom52 hi052 hsz52 hc52
                                          have KY52 := Aside0.mk hy52
                                          have KA52 := Aside0.mk hA52
                                          clear hy52 hA52
                                          (try simp only [hji22] at hcut52)
                                          replace q52 := eq_true q52
                                          refine start_ (n := 20) (S := fun w' => w'.cell? ⟨ad222.block, ad222.off + 2, none⟩ = some (.int .u8 (rd l0 2)) ∧ w'.cell? ⟨ad222.block, ad222.off + 3, none⟩ = some (.int .u8 (rd l0 3)) ∧ Sem.run Try.prog (convert 26 9 (.slice A52 y224.length c52)) w' = .ok (.string (strOfNums y224)) w') (ds := []) #[false, false, false, false, false, false, false, false, false, false, false, false, false, false, false, false, false, false, false, false] (by kernel_rfl) rfl rfl ⟨((HB.out.cell (World.block_lt_of_cell? w _ hw222_0)).trans hw222_0), ((HB.out.cell (World.block_lt_of_cell? w _ hw223_0)).trans hw223_0), (Kd.C_string (P := Try.prog) (A := A52) (c := c52) Try.underlying26 Try.underlying5 Try.underlying9 (Kd.C_below HR227.out (by repeat (first | (with_reducible first | exact HB.out | apply below_alloc | apply pw_below_drewN | apply below_drew1 | refine below_set ?_ GE204.out) | exact HB.out))))⟩ (fun hHeld => ?_); refine with_tabW frame_ReadData.tab14 frame_ReadData.bits14 (fun HT_ HW_ => ?_)
                                          generalize wr.drew = w51 at BK204 HB HR227 hx222_0 hx223_0 hHeld ⊢
                                          refine pure_ (i := 0) (N := some 63) (v := ?_) (a' := ?_) #[true, false, false, false, false, false, false, false, false, false, false, false, false, false, false, false, false, false, false, false] rfl rfl (any_of HT_.out (by kernel_rfl)) (fun _ _ _ h => h) (Or.inl ⟨by rfl, ?_⟩) ?_ ?_
                                          rotate_left
                                          · intro w'
                                            go_simp
                                            with_reducible rfl
                                          rotate_left
                                          · simp only [Act.put, List.setIfInBounds_toArray, List.set_cons_zero, List.set_cons_succ, i64_w, i32_w]
                                            rfl
                                          refine pure_ (i := 1) (N := some 64) (v := ?_) (a' := ?_) #[true, true, false, false, false, false, false, false, false, false, false, false, false, false, false, false, false, false, false, false] rfl rfl (any_of HT_.out (by kernel_rfl)) (fun _ _ _ h => h) (Or.inl ⟨by rfl, ?_⟩) ?_ ?_
                                          rotate_left
                                          · intro w'
                                            go_simp
                                            with_reducible rfl
                                          rotate_left
                                          · simp only [Act.put, List.setIfInBounds_toArray, List.set_cons_zero, List.set_cons_succ, i64_w, i32_w]
                                            rfl
                                          refine pure_ (i := 4) (N := some 67) (v := ?_) (a' := ?_) #[true, true, false, false, true, false, false, false, false, false, false, false, false, false, false, false, false, false, false, false] rfl rfl (any_of HT_.out (by kernel_rfl)) (fun _ _ _ h => h) (Or.inl ⟨by rfl, ?_⟩) ?_ ?_
                                          rotate_left
                                          · intro w'
                                            go_simp
                                            with_reducible rfl
                                          rotate_left
                                          · simp only [Act.put, List.setIfInBounds_toArray, List.set_cons_zero, List.set_cons_succ, i64_w, i32_w]
                                            rfl
                                          refine pure_ (i := 5) (N := some 68) (v := ?_) (a' := ?_) #[true, true, false, false, true, true, false, false, false, false, false, false, false, false, false, false, false, false, false, false] rfl rfl (any_of HT_.out (by kernel_rfl)) (fun _ _ _ h => h) (Or.inl ⟨by rfl, ?_⟩) ?_ ?_
                                          rotate_left
                                          · intro w'
                                            go_simp
                                            with_reducible rfl
                                          rotate_left
                                          · simp only [Act.put, List.setIfInBounds_toArray, List.set_cons_zero, List.set_cons_succ, i64_w, i32_w]
                                            rfl
                                          refine pure_ (i := 8) (N := some 71) (v := ?_) (a' := ?_) #[true, true, false, false, true, true, false, false, true, false, false, false, false, false, false, false, false, false, false, false] rfl rfl (any_of HT_.out (by kernel_rfl)) (fun _ _ _ h => h) (Or.inl ⟨by rfl, ?_⟩) ?_ ?_
                                          rotate_left
                                          · intro w'
                                            go_simp
                                            with_reducible rfl
                                          rotate_left
                                          · simp only [Act.put, List.setIfInBounds_toArray, List.set_cons_zero, List.set_cons_succ, i64_w, i32_w]
                                            rfl
                                          refine pure_ (i := 9) (N := some 72) (v := ?_) (a' := ?_) #[true, true, false, false, true, true, false, false, true, true, false, false, false, false, false, false, false, false, false, false] rfl rfl (any_of HT_.out (by kernel_rfl)) (fun _ _ _ h => h) (Or.inl ⟨by rfl, ?_⟩) ?_ ?_
                                          rotate_left
                                          · intro w'
                                            go_simp
                                            with_reducible rfl
                                          rotate_left
                                          · simp only [Act.put, List.setIfInBounds_toArray, List.set_cons_zero, List.set_cons_succ, i64_w, i32_w]
                                            rfl
                                          refine pure_ (i := 10) (N := some 73) (v := ?_) (a' := ?_) #[true, true, false, false, true, true, false, false, true, true, true, false, false, false, false, false, false, false, false, false] rfl rfl (any_of HT_.out (by kernel_rfl)) (fun _ _ _ h => h) (Or.inl ⟨by rfl, ?_⟩) ?_ ?_
                                          rotate_left
                                          · intro w'
                                            go_simp
                                            with_reducible rfl
                                          rotate_left
                                          · simp only [Act.put, List.setIfInBounds_toArray, List.set_cons_zero, List.set_cons_succ, i64_w, i32_w]
                                            rfl
                                          refine pure_ (i := 11) (N := some 74) (v := ?_) (a' := ?_) #[true, true, false, false, true, true, false, false, true, true, true, true, false, false, false, false, false, false, false, false] rfl rfl (any_of HT_.out (by kernel_rfl)) (fun _ _ _ h => h) (Or.inl ⟨by rfl, ?_⟩) ?_ ?_
                                          rotate_left
                                          · intro w'
                                            go_simp
                                            with_reducible rfl
                                          rotate_left
                                          · simp only [Act.put, List.setIfInBounds_toArray, List.set_cons_zero, List.set_cons_succ, i64_w, i32_w]
                                            rfl
                                          refine pure_ (i := 12) (N := some 75) (v := ?_) (a' := ?_) #[true, true, false, false, true, true, false, false, true, true, true, true, true, false, false, false, false, false, false, false] rfl rfl (any_of HT_.out (by kernel_rfl)) (fun _ _ _ h => h) (Or.inl ⟨by rfl, ?_⟩) ?_ ?_
                                          rotate_left
                                          · intro w'
                                            go_simp
                                            with_reducible rfl
                                          rotate_left
                                          · simp only [Act.put, List.setIfInBounds_toArray, List.set_cons_zero, List.set_cons_succ, i64_w, i32_w]
                                            rfl
                                          refine pure_ (i := 13) (N := some 76) (v := ?_) (a' := ?_) #[true, true, false, false, true, true, false, false, true, true, true, true, true, true, false, false, false, false, false, false] rfl rfl (any_of HT_.out (by kernel_rfl)) (fun _ _ _ h => h) (Or.inl ⟨by rfl, ?_⟩) ?_ ?_
                                          rotate_left
                                          · intro w'
                                            go_simp
                                            with_reducible rfl
                                          rotate_left
                                          · simp only [Act.put, List.setIfInBounds_toArray, List.set_cons_zero, List.set_cons_succ, i64_w, i32_w]
                                            rfl
                                          refine pure_ (i := 15) (N := some 78) (v := ?_) (a' := ?_) #[true, true, false, false, true, true, false, false, true, true, true, true, true, true, false, true, false, false, false, false] rfl rfl (any_of HT_.out (by kernel_rfl)) (fun _ _ _ h => h) (Or.inl ⟨by rfl, ?_⟩) ?_ ?_
                                          rotate_left
                                          · intro w'
                                            go_simp
                                            with_reducible rfl
                                          rotate_left
                                          · simp only [Act.put, List.setIfInBounds_toArray, List.set_cons_zero, List.set_cons_succ, i64_w, i32_w]
                                            rfl
                                          refine pure_ (i := 16) (N := some 79) (v := ?_) (a' := ?_) #[true, true, false, false, true, true, false, false, true, true, true, true, true, true, false, true, true, false, false, false] rfl rfl (any_of HT_.out (by kernel_rfl)) (fun _ _ _ h => h) (Or.inl ⟨by rfl, ?_⟩) ?_ ?_
                                          rotate_left
                                          · intro w'
                                            go_simp
                                            with_reducible rfl
                                          rotate_left
                                          · simp only [Act.put, List.setIfInBounds_toArray, List.set_cons_zero, List.set_cons_succ, i64_w, i32_w]
                                            rfl
                                          refine take_ (i := 2) (N := some 65) (v := ?_) (a' := ?_) #[true, true, true, false, true, true, false, false, true, true, true, true, true, true, false, true, true, false, false, false] rfl rfl (take_ofW HT_.out HW_.out (by kernel_rfl)) (fun _ _ _ h => h) (Or.inl ⟨by rfl, ?_⟩) hHeld ?_ ?_
                                          rotate_left
                                          · rintro w' ⟨s0, s1, s2⟩
                                            go_simp
                                            with_reducible rfl
                                          rotate_left
                                          · simp only [Act.put, List.setIfInBounds_toArray, List.set_cons_zero, List.set_cons_succ, i64_w, i32_w]
                                            rfl
                                          refine pure_ (i := 3) (N := some 66) (v := ?_) (a' := ?_) #[true, true, true, true, true, true, false, false, true, true, true, true, true, true, false, true, true, false, false, false] rfl rfl (any_of HT_.out (by kernel_rfl)) (fun _ _ _ h => h) (Or.inl ⟨by rfl, ?_⟩) ?_ ?_
                                          rotate_left
                                          · intro w'
                                            go_simp
                                            with_reducible rfl
                                          rotate_left
                                          · simp only [Act.put, List.setIfInBounds_toArray, List.set_cons_zero, List.set_cons_succ, i64_w, i32_w]
                                            rfl
                                          refine take_ (i := 6) (N := some 69) (v := ?_) (a' := ?_) #[true, true, true, true, true, true, true, false, true, true, true, true, true, true, false, true, true, false, false, false] rfl rfl (take_ofW HT_.out HW_.out (by kernel_rfl)) (fun _ _ _ h => h) (Or.inl ⟨by rfl, ?_⟩) hHeld ?_ ?_
                                          rotate_left
                                          · rintro w' ⟨s0, s1, s2⟩
                                            go_simp
                                            with_reducible rfl
                                          rotate_left
                                          · simp only [Act.put, List.setIfInBounds_toArray, List.set_cons_zero, List.set_cons_succ, i64_w, i32_w]
                                            rfl
                                          refine pure_ (i := 7) (N := some 70) (v := ?_) (a' := ?_) #[true, true, true, true, true, true, true, true, true, true, true, true, true, true, false, true, true, false, false, false] rfl rfl (any_of HT_.out (by kernel_rfl)) (fun _ _ _ h => h) (Or.inl ⟨by rfl, ?_⟩) ?_ ?_
                                          rotate_left
                                          · intro w'
                                            go_simp
                                            with_reducible rfl
                                          rotate_left
                                          · simp only [Act.put, List.setIfInBounds_toArray, List.set_cons_zero, List.set_cons_succ, i64_w, i32_w]
                                            rfl
                                          refine take_ (i := 14) (N := some 77) (v := ?_) (a' := ?_) #[true, true, true, true, true, true, true, true, true, true, true, true, true, true, true, true, true, false, false, false] rfl rfl (take_ofW HT_.out HW_.out (by kernel_rfl)) (fun _ _ _ h => h) (Or.inl ⟨by rfl, ?_⟩) hHeld ?_ ?_
                                          rotate_left
                                          · rintro w' ⟨s0, s1, s2⟩
                                            go_simp
                                            with_reducible rfl
                                          rotate_left
                                          · simp only [Act.put, List.setIfInBounds_toArray, List.set_cons_zero, List.set_cons_succ, i64_w, i32_w]
                                            rfl
                                          refine pure_ (i := 17) (N := some 80) (v := ?_) (a' := ?_) #[true, true, true, true, true, true, true, true, true, true, true, true, true, true, true, true, true, true, false, false] rfl rfl (any_of HT_.out (by kernel_rfl)) (fun _ _ _ h => h) (Or.inl ⟨by rfl, ?_⟩) ?_ ?_
                                          rotate_left
                                          · intro w'
                                            go_simp
                                            with_reducible rfl
                                          rotate_left
                                          · simp only [Act.put, List.setIfInBounds_toArray, List.set_cons_zero, List.set_cons_succ, i64_w, i32_w]
                                            rfl
                                          refine one_ (i := 18) (N := some 8) #[true, true, true, true, true, true, true, true, true, true, true, true, true, true, true, true, true, true, true, false] rfl rfl (one_of HT_.out (by kernel_rfl)) (by decide) (fun K hK => ?_)
                                          refine box_step ?hg (N := 8) ?hd (cs := #[.int .i64 0, .int .i64 0, .int .i64 0, .string (⟨#[]⟩ : ByteArray), .int .i64 0]) (t := 36) ?hr ?_; (case hd => rfl); (case hg => rfl); (case hr => first | (go_simp; done) | (go_simp; rfl))
                                          intro gb228 hg w53 hbox hb
                                          have n0_ := Aside0.mk (blk_below (g := gb204) (o := .cells #[.int .i64 x205000_3, .int .i64 x205001_3, .int .i64 x205002_3, .string x205003_3, .int .i64 x205004_3] 36 (0, 0)) (by (with_reducible repeat (first | refine blk_drewN ?_ _ | refine blk_drew ?_ | refine blk_alloc ?_ _)); exact BK204.out) hb)
                                          have n1_ := Aside0.mk (below_step (by repeat (first | (with_reducible first | exact HB.out | apply below_alloc | apply pw_below_drewN | apply below_drew1 | refine below_set ?_ GE204.out) | exact HB.out)) hb)
                                          have n2_ := Aside0.mk (hbox)
                                          have n3_ := Aside0.mk ((by rw [hg]; exact (below_size (by repeat (first | (with_reducible first | exact HB.out | apply below_alloc | apply pw_below_drewN | apply below_drew1 | refine below_set ?_ GE204.out) | exact HB.out))) : w.heap.size ≤ gb228))
                                          have n4_ := Aside0.mk ((by rw [hg]; exact (below_size (by repeat (first | (with_reducible first | exact HB.out | apply below_alloc | apply pw_below_drewN | apply below_drew1 | refine below_set ?_ GE204.out) | exact HB.out))) : w.heap.size ≤ gb228))
                                          have n5_ := Aside0.mk ((by rw [hg]; exact Nat.ne_of_lt (blk_lt (g := gb204) (o := .cells #[.int .i64 x205000_3, .int .i64 x205001_3, .int .i64 x205002_3, .string x205003_3, .int .i64 x205004_3] 36 (0, 0)) (by (with_reducible repeat (first | refine blk_drewN ?_ _ | refine blk_drew ?_ | refine blk_alloc ?_ _)); exact BK204.out)) : gb204 ≠ gb228))
                                          have n6_ := Aside0.mk ((by rw [hg]; exact Nat.ne_of_gt (blk_lt (g := gb204) (o := .cells #[.int .i64 x205000_3, .int .i64 x205001_3, .int .i64 x205002_3, .string x205003_3, .int .i64 x205004_3] 36 (0, 0)) (by (with_reducible repeat (first | refine blk_drewN ?_ _ | refine blk_drew ?_ | refine blk_alloc ?_ _)); exact BK204.out)) : gb228 ≠ gb204))
                                          clear BK204
                                          clear HB
                                          have BK204 := n0_
                                          have HB := n1_
                                          have BK228 := n2_
                                          have GW228 := n3_
                                          have GE228 := n4_
                                          have NB204_228 := n5_
                                          have NB228_204 := n6_
                                          clear n0_ n1_ n2_ n3_ n4_ n5_ n6_
                                          clear hb hbox hg
                                          refine hK.out _ _ ⟨((HB.out.cell (World.block_lt_of_cell? w _ hw222_0)).trans hw222_0), ((HB.out.cell (World.block_lt_of_cell? w _ hw223_0)).trans hw223_0), (Kd.C_string (P := Try.prog) (A := A52) (c := c52) Try.underlying26 Try.underlying5 Try.underlying9 (Kd.C_below HR227.out (by repeat (first | (with_reducible first | exact HB.out | apply below_alloc | apply pw_below_drewN | apply below_drew1 | refine below_set ?_ GE204.out) | exact HB.out))))⟩ (fun hHeld => ?_)
                                          clear hK K
                                          refine norm_ (a' := ?_) ?_ ?_
                                          rotate_left
                                          · show Act.put _ (some 8) _ = _
                                            simp only [Act.put, List.setIfInBounds_toArray, List.set_cons_zero, List.set_cons_succ, i64_w, i32_w]
                                            rfl
                                          refine one_ (i := 19) (N := none) #[true, true, true, true, true, true, true, true, true, true, true, true, true, true, true, true, true, true, true, true] rfl rfl (one_of HT_.out (by kernel_rfl)) (by decide) (fun K hK => ?_)
                                          have hs54 : World.cell? _ ⟨gb228, 0, none⟩ = some (.int .i64 0) := (blk_cell BK228.out 0).trans rfl
                                          have hfs54 := blk_frozen BK228.out 0
                                          have hns54_0 := NB204_228.out
                                          have hms54_0 := NB228_204.out
                                          have hs55 : World.cell? _ ⟨gb228, 1, none⟩ = some (.int .i64 0) := (blk_cell BK228.out 1).trans rfl
                                          have hfs55 := blk_frozen BK228.out 1
                                          have hns55_0 := NB204_228.out
                                          have hms55_0 := NB228_204.out
                                          have hs56 : World.cell? _ ⟨gb228, 2, none⟩ = some (.int .i64 0) := (blk_cell BK228.out 2).trans rfl
                                          have hfs56 := blk_frozen BK228.out 2
                                          have hns56_0 := NB204_228.out
                                          have hms56_0 := NB228_204.out
                                          have hs57 : World.cell? _ ⟨gb228, 3, none⟩ = some (.string (⟨#[]⟩ : ByteArray)) := (blk_cell BK228.out 3).trans rfl
                                          have hfs57 := blk_frozen BK228.out 3
                                          have hns57_0 := NB204_228.out
                                          have hms57_0 := NB228_204.out
                                          have hs58 : World.cell? _ ⟨gb228, 4, none⟩ = some (.int .i64 0) := (blk_cell BK228.out 4).trans rfl
                                          have hfs58 := blk_frozen BK228.out 4
                                          have hns58_0 := NB204_228.out
                                          have hms58_0 := NB228_204.out
                                          refine skip_ (w1 := ?_) (by rfl) rfl ?_ ?_
                                          rotate_left
                                          · go_simp
                                            rfl
                                          refine hK.out _ _ ⟨((cell_far (p := ⟨gb228, _, none⟩) (by first | exact Nat.ne_of_lt (Nat.lt_of_lt_of_le (by have := World.block_lt_of_cell? _ _ hw222_0; first | rwa [add_block] at this | exact this) GW228.out) | (rw [add_block]; exact Nat.ne_of_lt (Nat.lt_of_lt_of_le (by have := World.block_lt_of_cell? _ _ hw222_0; first | rwa [add_block] at this | exact this) GW228.out)) | (show (Addr.add _ _).block ≠ _; rw [add_block]; exact Nat.ne_of_lt (Nat.lt_of_lt_of_le (by have := World.block_lt_of_cell? _ _ hw222_0; first | rwa [add_block] at this | exact this) GW228.out)) | (dsimp only; exact Nat.ne_of_lt (Nat.lt_of_lt_of_le (by have := World.block_lt_of_cell? _ _ hw222_0; first | rwa [add_block] at this | exact this) GW228.out))) _).trans (((cell_far (p := ⟨gb228, _, none⟩) (by first | exact Nat.ne_of_lt (Nat.lt_of_lt_of_le (by have := World.block_lt_of_cell? _ _ hw222_0; first | rwa [add_block] at this | exact this) GW228.out) | (rw [add_block]; exact Nat.ne_of_lt (Nat.lt_of_lt_of_le (by have := World.block_lt_of_cell? _ _ hw222_0; first | rwa [add_block] at this | exact this) GW228.out)) | (show (Addr.add _ _).block ≠ _; rw [add_block]; exact Nat.ne_of_lt (Nat.lt_of_lt_of_le (by have := World.block_lt_of_cell? _ _ hw222_0; first | rwa [add_block] at this | exact this) GW228.out)) | (dsimp only; exact Nat.ne_of_lt (Nat.lt_of_lt_of_le (by have := World.block_lt_of_cell? _ _ hw222_0; first | rwa [add_block] at this | exact this) GW228.out))) _).trans (((cell_far (p := ⟨gb228, _, none⟩) (by first | exact Nat.ne_of_lt (Nat.lt_of_lt_of_le (by have := World.block_lt_of_cell? _ _ hw222_0; first | rwa [add_block] at this | exact this) GW228.out) | (rw [add_block]; exact Nat.ne_of_lt (Nat.lt_of_lt_of_le (by have := World.block_lt_of_cell? _ _ hw222_0; first | rwa [add_block] at this | exact this) GW228.out)) | (show (Addr.add _ _).block ≠ _; rw [add_block]; exact Nat.ne_of_lt (Nat.lt_of_lt_of_le (by have := World.block_lt_of_cell? _ _ hw222_0; first | rwa [add_block] at this | exact this) GW228.out)) | (dsimp only; exact Nat.ne_of_lt (Nat.lt_of_lt_of_le (by have := World.block_lt_of_cell? _ _ hw222_0; first | rwa [add_block] at this | exact this) GW228.out))) _).trans (((cell_far (p := ⟨gb228, _, none⟩) (by first | exact Nat.ne_of_lt (Nat.lt_of_lt_of_le (by have := World.block_lt_of_cell? _ _ hw222_0; first | rwa [add_block] at this | exact this) GW228.out) | (rw [add_block]; exact Nat.ne_of_lt (Nat.lt_of_lt_of_le (by have := World.block_lt_of_cell? _ _ hw222_0; first | rwa [add_block] at this | exact this) GW228.out)) | (show (Addr.add _ _).block ≠ _; rw [add_block]; exact Nat.ne_of_lt (Nat.lt_of_lt_of_le (by have := World.block_lt_of_cell? _ _ hw222_0; first | rwa [add_block] at this | exact this) GW228.out)) | (dsimp only; exact Nat.ne_of_lt (Nat.lt_of_lt_of_le (by have := World.block_lt_of_cell? _ _ hw222_0; first | rwa [add_block] at this | exact this) GW228.out))) _).trans (((cell_far (p := ⟨gb228, _, none⟩) (by first | exact Nat.ne_of_lt (Nat.lt_of_lt_of_le (by have := World.block_lt_of_cell? _ _ hw222_0; first | rwa [add_block] at this | exact this) GW228.out) | (rw [add_block]; exact Nat.ne_of_lt (Nat.lt_of_lt_of_le (by have := World.block_lt_of_cell? _ _ hw222_0; first | rwa [add_block] at this | exact this) GW228.out)) | (show (Addr.add _ _).block ≠ _; rw [add_block]; exact Nat.ne_of_lt (Nat.lt_of_lt_of_le (by have := World.block_lt_of_cell? _ _ hw222_0; first | rwa [add_block] at this | exact this) GW228.out)) | (dsimp only; exact Nat.ne_of_lt (Nat.lt_of_lt_of_le (by have := World.block_lt_of_cell? _ _ hw222_0; first | rwa [add_block] at this | exact this) GW228.out))) _).trans (hHeld.1)))))))))), ((cell_far (p := ⟨gb228, _, none⟩) (by first | exact Nat.ne_of_lt (Nat.lt_of_lt_of_le (by have := World.block_lt_of_cell? _ _ hw223_0; first | rwa [add_block] at this | exact this) GW228.out) | (rw [add_block]; exact Nat.ne_of_lt (Nat.lt_of_lt_of_le (by have := World.block_lt_of_cell? _ _ hw223_0; first | rwa [add_block] at this | exact this) GW228.out)) | (show (Addr.add _ _).block ≠ _; rw [add_block]; exact Nat.ne_of_lt (Nat.lt_of_lt_of_le (by have := World.block_lt_of_cell? _ _ hw223_0; first | rwa [add_block] at this | exact this) GW228.out)) | (dsimp only; exact Nat.ne_of_lt (Nat.lt_of_lt_of_le (by have := World.block_lt_of_cell? _ _ hw223_0; first | rwa [add_block] at this | exact this) GW228.out))) _).trans (((cell_far (p := ⟨gb228, _, none⟩) (by first | exact Nat.ne_of_lt (Nat.lt_of_lt_of_le (by have := World.block_lt_of_cell? _ _ hw223_0; first | rwa [add_block] at this | exact this) GW228.out) | (rw [add_block]; exact Nat.ne_of_lt (Nat.lt_of_lt_of_le (by have := World.block_lt_of_cell? _ _ hw223_0; first | rwa [add_block] at this | exact this) GW228.out)) | (show (Addr.add _ _).block ≠ _; rw [add_block]; exact Nat.ne_of_lt (Nat.lt_of_lt_of_le (by have := World.block_lt_of_cell? _ _ hw223_0; first | rwa [add_block] at this | exact this) GW228.out)) | (dsimp only; exact Nat.ne_of_lt (Nat.lt_of_lt_of_le (by have := World.block_lt_of_cell? _ _ hw223_0; first | rwa [add_block] at this | exact this) GW228.out))) _).trans (((cell_far (p := ⟨gb228, _, none⟩) (by first | exact Nat.ne_of_lt (Nat.lt_of_lt_of_le (by have := World.block_lt_of_cell? _ _ hw223_0; first | rwa [add_block] at this | exact this) GW228.out) | (rw [add_block]; exact Nat.ne_of_lt (Nat.lt_of_lt_of_le (by have := World.block_lt_of_cell? _ _ hw223_0; first | rwa [add_block] at this | exact this) GW228.out)) | (show (Addr.add _ _).block ≠ _; rw [add_block]; exact Nat.ne_of_lt (Nat.lt_of_lt_of_le (by have := World.block_lt_of_cell? _ _ hw223_0; first | rwa [add_block] at this | exact this) GW228.out)) | (dsimp only; exact Nat.ne_of_lt (Nat.lt_of_lt_of_le (by have := World.block_lt_of_cell? _ _ hw223_0; first | rwa [add_block] at this | exact this) GW228.out))) _).trans (((cell_far (p := ⟨gb228, _, none⟩) (by first | exact Nat.ne_of_lt (Nat.lt_of_lt_of_le (by have := World.block_lt_of_cell? _ _ hw223_0; first | rwa [add_block] at this | exact this) GW228.out) | (rw [add_block]; exact Nat.ne_of_lt (Nat.lt_of_lt_of_le (by have := World.block_lt_of_cell? _ _ hw223_0; first | rwa [add_block] at this | exact this) GW228.out)) | (show (Addr.add _ _).block ≠ _; rw [add_block]; exact Nat.ne_of_lt (Nat.lt_of_lt_of_le (by have := World.block_lt_of_cell? _ _ hw223_0; first | rwa [add_block] at this | exact this) GW228.out)) | (dsimp only; exact Nat.ne_of_lt (Nat.lt_of_lt_of_le (by have := World.block_lt_of_cell? _ _ hw223_0; first | rwa [add_block] at this | exact this) GW228.out))) _).trans (((cell_far (p := ⟨gb228, _, none⟩) (by first | exact Nat.ne_of_lt (Nat.lt_of_lt_of_le (by have := World.block_lt_of_cell? _ _ hw223_0; first | rwa [add_block] at this | exact this) GW228.out) | (rw [add_block]; exact Nat.ne_of_lt (Nat.lt_of_lt_of_le (by have := World.block_lt_of_cell? _ _ hw223_0; first | rwa [add_block] at this | exact this) GW228.out)) | (show (Addr.add _ _).block ≠ _; rw [add_block]; exact Nat.ne_of_lt (Nat.lt_of_lt_of_le (by have := World.block_lt_of_cell? _ _ hw223_0; first | rwa [add_block] at this | exact this) GW228.out)) | (dsimp only; exact Nat.ne_of_lt (Nat.lt_of_lt_of_le (by have := World.block_lt_of_cell? _ _ hw223_0; first | rwa [add_block] at this | exact this) GW228.out))) _).trans (hHeld.2.1)))))))))), (Kd.C_string (P := Try.prog) (A := A52) (c := c52) Try.underlying26 Try.underlying5 Try.underlying9 (Kd.C_below HR227.out (by repeat (first | (with_reducible first | exact (below_set (below_set (below_set (below_set (below_set HB.out GE228.out) GE228.out) GE228.out) GE228.out) GE228.out) | apply below_alloc | apply pw_below_drewN | apply below_drew1 | refine below_set ?_ GE204.out) | exact (below_set (below_set (below_set (below_set (below_set HB.out GE228.out) GE228.out) GE228.out) GE228.out) GE228.out)))))⟩ (fun hHeld => ?_)
                                          clear hK K
                                          refine done_ (done_of HT_.out (by kernel_rfl)) ?_
                                          have hnb59 := NB228_204.out
                                          have hnc59 := NB204_228.out
                                          have hcz60_0 : World.cell? _ ⟨gb228, 0, none⟩ = some (.int .i64 0) := (blk_cell BK228.out 0).trans rfl
                                          have hcz60_1 : World.cell? _ ⟨gb228, 1, none⟩ = some (.int .i64 0) := (blk_cell BK228.out 1).trans rfl
                                          have hcz60_2 : World.cell? _ ⟨gb228, 2, none⟩ = some (.int .i64 0) := (blk_cell BK228.out 2).trans rfl
                                          have hcz60_3 : World.cell? _ ⟨gb228, 3, none⟩ = some (.string (⟨#[]⟩ : ByteArray)) := (blk_cell BK228.out 3).trans rfl
                                          have hcz60_4 : World.cell? _ ⟨gb228, 4, none⟩ = some (.int .i64 0) := (blk_cell BK228.out 4).trans rfl
                                          have hfz60_0 := blk_frozen BK228.out 0
                                          have hfz60_1 := blk_frozen BK228.out 1
                                          have hfz60_2 := blk_frozen BK228.out 2
                                          have hfz60_3 := blk_frozen BK228.out 3
                                          have hfz60_4 := blk_frozen BK228.out 4
                                          try go_wp2_with (first | ((with_reducible refine gate_callee (f := 34) rfl ?_); refine goesL_ (some 82) rfl rfl Try.func34 (by kernel_rfl) rfl #[.agg #[.int .i64 (wrap64 (rd l0 2)), .int .i64 (wrap64 (rd l0 3)), .int .i64 (wrap64 (t211)), .string (strOfNums y224), .int .i64 (l0.length : Int)]] rfl (by (try simp only [List.map_toArray, List.map_cons, List.map_nil]); first | done | rfl | (simp only [List.length_drop, List.length_take]; rfl)) ?_; (with_reducible refine (frame_rightData.calls (wrap64 (rd l0 2)) (wrap64 (rd l0 3)) (wrap64 (t211)) (strOfNums y224) (l0.length : Int) false _ A36.out).mono ?_); rintro e w61 ⟨rfl, hb⟩; refine ⟨_, rfl, ?_⟩; have n0_ := Aside0.mk (blk_below (g := gb204) (o := .cells #[.int .i64 x205000_3, .int .i64 x205001_3, .int .i64 x205002_3, .string x205003_3, .int .i64 x205004_3] 36 (0, 0)) (by (with_reducible repeat (first | refine blk_drewN ?_ _ | refine blk_drew ?_ | refine blk_alloc ?_ _)); refine blk_far ?_ NB204_228.out _; (with_reducible repeat (first | refine blk_drewN ?_ _ | refine blk_drew ?_ | refine blk_alloc ?_ _)); refine blk_far ?_ NB204_228.out _; (with_reducible repeat (first | refine blk_drewN ?_ _ | refine blk_drew ?_ | refine blk_alloc ?_ _)); refine blk_far ?_ NB204_228.out _; (with_reducible repeat (first | refine blk_drewN ?_ _ | refine blk_drew ?_ | refine blk_alloc ?_ _)); refine blk_far ?_ NB204_228.out _; (with_reducible repeat (first | refine blk_drewN ?_ _ | refine blk_drew ?_ | refine blk_alloc ?_ _)); refine blk_far ?_ NB204_228.out _; (with_reducible repeat (first | refine blk_drewN ?_ _ | refine blk_drew ?_ | refine blk_alloc ?_ _)); exact BK204.out) hb); have n1_ := Aside0.mk (blk_below (g := gb228) (o := .cells #[.int .i64 (wrap64 (rd l0 2)), .int .i64 (wrap64 (rd l0 3)), .int .i64 (wrap64 (t211)), .string (strOfNums y224), .int .i64 (l0.length : Int)] 36 (0, 0)) (by (with_reducible repeat (first | refine blk_drewN ?_ _ | refine blk_drew ?_ | refine blk_alloc ?_ _)); refine blk_put (cs := #[.int .i64 (wrap64 (rd l0 2)), .int .i64 (wrap64 (rd l0 3)), .int .i64 (wrap64 (t211)), .string (strOfNums y224), .int .i64 0]) ?_ 4 _ rfl; (with_reducible repeat (first | refine blk_drewN ?_ _ | refine blk_drew ?_ | refine blk_alloc ?_ _)); refine blk_put (cs := #[.int .i64 (wrap64 (rd l0 2)), .int .i64 (wrap64 (rd l0 3)), .int .i64 (wrap64 (t211)), .string (⟨#[]⟩ : ByteArray), .int .i64 0]) ?_ 3 _ rfl; (with_reducible repeat (first | refine blk_drewN ?_ _ | refine blk_drew ?_ | refine blk_alloc ?_ _)); refine blk_put (cs := #[.int .i64 (wrap64 (rd l0 2)), .int .i64 (wrap64 (rd l0 3)), .int .i64 0, .string (⟨#[]⟩ : ByteArray), .int .i64 0]) ?_ 2 _ rfl; (with_reducible repeat (first | refine blk_drewN ?_ _ | refine blk_drew ?_ | refine blk_alloc ?_ _)); refine blk_put (cs := #[.int .i64 (wrap64 (rd l0 2)), .int .i64 0, .int .i64 0, .string (⟨#[]⟩ : ByteArray), .int .i64 0]) ?_ 1 _ rfl; (with_reducible repeat (first | refine blk_drewN ?_ _ | refine blk_drew ?_ | refine blk_alloc ?_ _)); refine blk_put (cs := #[.int .i64 0, .int .i64 0, .int .i64 0, .string (⟨#[]⟩ : ByteArray), .int .i64 0]) ?_ 0 _ rfl; (with_reducible repeat (first | refine blk_drewN ?_ _ | refine blk_drew ?_ | refine blk_alloc ?_ _)); exact BK228.out) hb); have n2_ := Aside0.mk (below_step (by repeat (first | (with_reducible first | exact HB.out | apply below_alloc | apply pw_below_drewN | apply below_drew1 | refine below_set ?_ GE204.out | refine below_set ?_ GE228.out) | exact HB.out)) hb); clear BK204; clear BK228; clear HB; have BK204 := n0_; have BK228 := n1_; have HB := n2_; clear n0_ n1_ n2_; (try clear hb); (try clear hb2); (try clear hk); (try clear hi); have hcz62_0 : World.cell? _ ⟨gb204, 0, none⟩ = some (.int .i64 x205000_3) := (blk_cell BK204.out 0).trans rfl; have hcz62_1 : World.cell? _ ⟨gb204, 1, none⟩ = some (.int .i64 x205001_3) := (blk_cell BK204.out 1).trans rfl; have hcz62_2 : World.cell? _ ⟨gb204, 2, none⟩ = some (.int .i64 x205002_3) := (blk_cell BK204.out 2).trans rfl; have hcz62_3 : World.cell? _ ⟨gb204, 3, none⟩ = some (.string x205003_3) := (blk_cell BK204.out 3).trans rfl; have hcz62_4 : World.cell? _ ⟨gb204, 4, none⟩ = some (.int .i64 x205004_3) := (blk_cell BK204.out 4).trans rfl; have hfz62_0 := blk_frozen BK204.out 0; have hfz62_1 := blk_frozen BK204.out 1; have hfz62_2 := blk_frozen BK204.out 2; have hfz62_3 := blk_frozen BK204.out 3; have hfz62_4 := blk_frozen BK204.out 4))
                                          refine bodyPost_ret (results_ct rfl _ _ gb204 36 #[.int .i64 0, .int .i64 0, .int .i64 0, .string (⟨#[]⟩ : ByteArray), .int .i64 0] (0, 0) _ rfl (by (with_reducible repeat (first | refine blk_drewN ?_ _ | refine blk_drew ?_ | refine blk_alloc ?_ _)); refine blk_put (cs := #[.int .i64 0, .int .i64 0, .int .i64 0, .string (⟨#[]⟩ : ByteArray), .int .i64 x205004_3]) ?_ 4 _ rfl; (with_reducible repeat (first | refine blk_drewN ?_ _ | refine blk_drew ?_ | refine blk_alloc ?_ _)); refine blk_put (cs := #[.int .i64 0, .int .i64 0, .int .i64 0, .string x205003_3, .int .i64 x205004_3]) ?_ 3 _ rfl; (with_reducible repeat (first | refine blk_drewN ?_ _ | refine blk_drew ?_ | refine blk_alloc ?_ _)); refine blk_put (cs := #[.int .i64 0, .int .i64 0, .int .i64 x205002_3, .string x205003_3, .int .i64 x205004_3]) ?_ 2 _ rfl; (with_reducible repeat (first | refine blk_drewN ?_ _ | refine blk_drew ?_ | refine blk_alloc ?_ _)); refine blk_put (cs := #[.int .i64 0, .int .i64 x205001_3, .int .i64 x205002_3, .string x205003_3, .int .i64 x205004_3]) ?_ 1 _ rfl; (with_reducible repeat (first | refine blk_drewN ?_ _ | refine blk_drew ?_ | refine blk_alloc ?_ _)); refine blk_put (cs := #[.int .i64 x205000_3, .int .i64 x205001_3, .int .i64 x205002_3, .string x205003_3, .int .i64 x205004_3]) ?_ 0 _ rfl; (with_reducible repeat (first | refine blk_drewN ?_ _ | refine blk_drew ?_ | refine blk_alloc ?_ _)); exact BK204.out) Try.underlying36 rfl (by kernel_rfl)) rfl ?_
                                          exact ⟨by first | rfl | (simp [errW_none, errW_some] <;> rfl) | (simp only [← hji22]; first | rfl | (simp [errW_none, errW_some] <;> rfl)) | (simp [*, errW_none, errW_some] <;> rfl), by repeat (first | (with_reducible first | exact HB.out | apply below_alloc | apply pw_below_drewN | apply below_drew1 | refine below_set ?_ GE204.out | refine below_set ?_ GE228.out) | exact HB.out)⟩
                                      · rw [if_neg c35] at H
                                        exact absurd H (by simp)
                                    · rw [if_neg c34] at H
                                      exact absurd H (by simp)
                                  · rw [if_neg c33] at H
                                    exact absurd H (by simp)
                                · rw [if_neg c32] at H
                                  exact absurd H (by simp)
                        · rw [if_neg c25] at H
                          exact absurd H (by simp)
                      · rw [if_neg c24] at H
                        exact absurd H (by simp)
                    · rw [if_neg c23] at H
                      exact absurd H (by simp)
            · rw [if_neg c13] at H
              exact absurd H (by simp)
          · rw [if_neg c11] at H
            exact absurd H (by simp)
        · replace c10 := Bool.eq_false_iff.mpr c10
          subst c10
          have H1 : (some (0, 0, 0, (⟨#[]⟩ : ByteArray), 0, 8)) = some (r1, r2, r3, r4, r5, r6) := by rw [if_neg (show ¬ (false = true) by decide)] at H; exact H
          clear H
          have H := H1
          clear H1
          simp only [Option.some.injEq, Prod.mk.injEq] at H
          obtain ⟨rfl, rfl, rfl, rfl, rfl, rfl⟩ := H
          go_wp2_with (first | ((with_reducible refine gate_callee (f := 30) rfl ?_); refine goesL_ (some 26) rfl rfl Try.func30 (by kernel_rfl) rfl #[.slice A0 l0.length c0] rfl (by (try simp only [List.map_toArray, List.map_cons, List.map_nil]); first | done | rfl | (simp only [List.length_drop, List.length_take]; rfl)) ?_; (with_reducible refine (frame_open.calls kj1 _ _ l0 false _ ?side1 ?side2 A9.out).mono ?_); (case side1 => repeat (first | exact (Kd.C_below HR0.out HB.out) | (with_reducible refine Kd.C_alloc ?_ _) | (with_reducible refine Kd.C_drewN ?_ _) | (with_reducible refine Kd.C_drew ?_))); (case side2 => exact HC0.out); rintro e w' ⟨rfl, ⟨nd, rfl⟩⟩; refine ⟨_, rfl, ?_⟩; (try (rw [drewN_self wc]; generalize hq_ : World.drewN wc _ = wc; have n0_ : Aside0 (wc.heap[gb204]? = some (.cells #[.int .i64 0, .int .i64 0, .int .i64 0, .string (⟨#[]⟩ : ByteArray), .int .i64 0] 36 (0, 0))) := ⟨by rw [← hq_]; exact (by (with_reducible repeat (first | refine blk_drewN ?_ _ | refine blk_drew ?_ | refine blk_alloc ?_ _)); exact BK204.out)⟩; have n1_ : Aside0 (Below w.heap.size w wc) := ⟨by rw [← hq_]; exact (by repeat (first | (with_reducible first | exact HB.out | apply below_alloc | apply pw_below_drewN | apply below_drew1 | refine below_set ?_ GE204.out) | exact HB.out))⟩; clear BK204 HB hq_; have BK204 := n0_; have HB := n1_; clear n0_ n1_)); have hcz63_0 : World.cell? _ ⟨gb204, 0, none⟩ = some (.int .i64 0) := (blk_cell BK204.out 0).trans rfl; have hcz63_1 : World.cell? _ ⟨gb204, 1, none⟩ = some (.int .i64 0) := (blk_cell BK204.out 1).trans rfl; have hcz63_2 : World.cell? _ ⟨gb204, 2, none⟩ = some (.int .i64 0) := (blk_cell BK204.out 2).trans rfl; have hcz63_3 : World.cell? _ ⟨gb204, 3, none⟩ = some (.string (⟨#[]⟩ : ByteArray)) := (blk_cell BK204.out 3).trans rfl; have hcz63_4 : World.cell? _ ⟨gb204, 4, none⟩ = some (.int .i64 0) := (blk_cell BK204.out 4).trans rfl; have hfz63_0 := blk_frozen BK204.out 0; have hfz63_1 := blk_frozen BK204.out 1; have hfz63_2 := blk_frozen BK204.out 2; have hfz63_3 := blk_frozen BK204.out 3; have hfz63_4 := blk_frozen BK204.out 4))
          refine bodyPost_ret (results_ct rfl _ _ gb204 36 #[.int .i64 0, .int .i64 0, .int .i64 0, .string (⟨#[]⟩ : ByteArray), .int .i64 0] (0, 0) _ rfl (by (with_reducible repeat (first | refine blk_drewN ?_ _ | refine blk_drew ?_ | refine blk_alloc ?_ _)); refine blk_put (cs := #[.int .i64 0, .int .i64 0, .int .i64 0, .string (⟨#[]⟩ : ByteArray), .int .i64 0]) ?_ 4 _ rfl; (with_reducible repeat (first | refine blk_drewN ?_ _ | refine blk_drew ?_ | refine blk_alloc ?_ _)); refine blk_put (cs := #[.int .i64 0, .int .i64 0, .int .i64 0, .string (⟨#[]⟩ : ByteArray), .int .i64 0]) ?_ 3 _ rfl; (with_reducible repeat (first | refine blk_drewN ?_ _ | refine blk_drew ?_ | refine blk_alloc ?_ _)); refine blk_put (cs := #[.int .i64 0, .int .i64 0, .int .i64 0, .string (⟨#[]⟩ : ByteArray), .int .i64 0]) ?_ 2 _ rfl; (with_reducible repeat (first | refine blk_drewN ?_ _ | refine blk_drew ?_ | refine blk_alloc ?_ _)); refine blk_put (cs := #[.int .i64 0, .int .i64 0, .int .i64 0, .string (⟨#[]⟩ : ByteArray), .int .i64 0]) ?_ 1 _ rfl; (with_reducible repeat (first | refine blk_drewN ?_ _ | refine blk_drew ?_ | refine blk_alloc ?_ _)); refine blk_put (cs := #[.int .i64 0, .int .i64 0, .int .i64 0, .string (⟨#[]⟩ : ByteArray), .int .i64 0]) ?_ 0 _ rfl; (with_reducible repeat (first | refine blk_drewN ?_ _ | refine blk_drew ?_ | refine blk_alloc ?_ _)); exact BK204.out) Try.underlying36 rfl (by kernel_rfl)) rfl ?_
          exact ⟨by first | rfl | (simp [errW_none, errW_some] <;> rfl) | (simp [*, errW_none, errW_some] <;> rfl), by repeat (first | (with_reducible first | exact HB.out | apply below_alloc | apply pw_below_drewN | apply below_drew1 | refine below_set ?_ GE204.out) | exact HB.out)⟩

end Go.Proofs.Ytgeheedfmdlefaa.PF
