/- The functions that the law runs, each as a Lean function with its proof; written and laid together by a program for this claim. -/
import Derived.Test.YtgeheedfmdlefaaFrameSealedFns0
section
namespace Go.Proofs.Ytgeheedfmdlefaa.PF
open Go.RowKit Go.Proofs.YtgeheedfmdlefaaW.PrintWords Go.Proofs.YtgeheedfmdlefaaW.PrintLast Go.Proofs.YtgeheedfmdlefaaW.PrintMore Go.Proofs.Ytgeheedfmdlefaa.Conv
attribute [local go_sem] max2_int min2_int max_two min_two max_three min_three max_four min_four   -- for this text's walks alone
set_option linter.unusedVariables false
set_option linter.unusedSimpArgs false

/-! ### frame_ReadData: function 19 -/
mutual
def frame_ReadData.j0 : Nat → List Int → Bool → Option (Int × Int × Int × ByteArray × Int × Int)
 | 0, _, _ => none
 | k + 1, x0, x9 => if x9 = true then (some (0, 0, 0, (⟨#[]⟩ : ByteArray), 0, 2)) else ((frame_open.f k x0).bind fun t206 => (if t206 = true then (if 8 ≤ (x0.length : Int) then ((frame_get.f k ((x0.take 8).drop 4)).bind fun t211 => (if 10 ≤ (x0.length : Int) then ((frame_get.f k ((x0.take 10).drop 8)).bind fun t216 => (if t211 > 2147483647 then (frame_ReadData.j1 k x0 t211 (wrap64 (t216)) true) else (frame_ReadData.j1 k x0 t211 (wrap64 (t216)) (decide ((wrap64 (t216)) > (wrap64 ((wrap64 ((x0.length : Int) - 10)) - 4))))))) else (none))) else (none)) else (some (0, 0, 0, (⟨#[]⟩ : ByteArray), 0, 8))))
def frame_ReadData.j1 : Nat → List Int → Int → Int → Bool → Option (Int × Int × Int × ByteArray × Int × Int)
 | 0, _, _, _, _ => none
 | k + 1, x0, x4, x5, x45 => if x45 = true then (some (0, 0, 0, (⟨#[]⟩ : ByteArray), 0, 2)) else (if 0 ≤ (wrap64 (10 + x5)) then (if (wrap64 (10 + x5)) ≤ (wrap64 ((x0.length : Int) - 4)) then (if (wrap64 ((x0.length : Int) - 4)) ≤ (x0.length : Int) then ((some ((x0.take ((wrap64 ((x0.length : Int) - 4)) : Int).toNat).drop ((wrap64 (10 + x5)) : Int).toNat : List Int)).bind fun y217 => (frame_ReadData.l0 k x0 x4 x5 y217 (y217.length : Int) 0)) else (none)) else (none)) else (none))
def frame_ReadData.l0 : Nat → List Int → Int → Int → List Int → Int → Int → Option (Int × Int × Int × ByteArray × Int × Int)
 | 0, _, _, _, _, _, _ => none
 | k + 1, x0, x4, x5, x53, x54, x55 => if x55 < x54 then (if 0 ≤ x55 then (if x55 < (x53.length : Int) then (if (rd x53 x55) = 0 then (frame_ReadData.l0 k x0 x4 x5 x53 x54 (wrap64 (x55 + 1))) else (some (0, 0, 0, (⟨#[]⟩ : ByteArray), 0, 2))) else (none)) else (none)) else (if 2 < (x0.length : Int) then (if 3 < (x0.length : Int) then (if 10 ≤ (wrap64 (10 + x5)) then (if (wrap64 (10 + x5)) ≤ (x0.length : Int) then ((some ((x0.take ((wrap64 (10 + x5)) : Int).toNat).drop 10 : List Int)).bind fun y224 => ((frame_rightData.f (wrap64 (rd x0 2)) (wrap64 (rd x0 3)) (wrap64 (x4)) (strOfNums y224) (x0.length : Int)).bind fun t229 => (if t229 = true then (some (wrap64 (rd x0 2), wrap64 (rd x0 3), wrap64 (x4), strOfNums y224, (x0.length : Int), 0)) else (some (0, 0, 0, (⟨#[]⟩ : ByteArray), 0, 2))))) else (none)) else (none)) else (none)) else (none))
end
def frame_ReadData.f (k : Nat) (l0 : List Int) : Option (Int × Int × Int × ByteArray × Int × Int) := if (l0.length : Int) < 64 then (frame_ReadData.j0 k l0 true) else (if (l0.length : Int) > 1518 then (frame_ReadData.j0 k l0 true) else ((frame_Which.f k l0).bind fun t205 => (frame_ReadData.j0 k l0 (t205 != 2))))
theorem frame_ReadData.mono_l : ∀ k, (∀ y0 y1, LeO (frame_ReadData.j0 k y0 y1) (frame_ReadData.j0 (k + 1) y0 y1)) ∧ (∀ y0 y1 y2 y3, LeO (frame_ReadData.j1 k y0 y1 y2 y3) (frame_ReadData.j1 (k + 1) y0 y1 y2 y3)) ∧ (∀ y0 y1 y2 y3 y4 y5, LeO (frame_ReadData.l0 k y0 y1 y2 y3 y4 y5) (frame_ReadData.l0 (k + 1) y0 y1 y2 y3 y4 y5))
 | 0 => ⟨fun _ _ r h => by simp [frame_ReadData.j0] at h, fun _ _ _ _ r h => by simp [frame_ReadData.j1] at h, fun _ _ _ _ _ _ r h => by simp [frame_ReadData.l0] at h⟩
 | k + 1 => by
  obtain ⟨ih0, ih1, ih2⟩ := frame_ReadData.mono_l k
  refine ⟨?_, ?_, ?_⟩
  ·intro y0 y1
   unfold frame_ReadData.j0
   repeat' first
   | (with_reducible exact ih0 _ _)
   | (with_reducible exact ih1 _ _ _ _)
   | (with_reducible exact ih2 _ _ _ _ _ _)
   | (with_reducible exact frame_Which.mono _ _)
   | (with_reducible exact frame_get.mono _ _)
   | (with_reducible exact frame_open.mono _ _)
   | (with_reducible exact LeO.refl _)
   | (with_reducible exact LeO.none _)
   | (with_reducible refine LeO.ite ?_ ?_)
   | (with_reducible refine LeO.bind ?_ (fun _ => ?_))
   | exact ih0 _ _
   | exact ih1 _ _ _ _
   | exact ih2 _ _ _ _ _ _
   | exact frame_Which.mono _ _
   | exact frame_get.mono _ _
   | exact frame_open.mono _ _
   | exact LeO.none _
   | refine LeO.ite ?_ ?_
   | refine LeO.bind ?_ (fun _ => ?_)
  ·intro y0 y1 y2 y3
   unfold frame_ReadData.j1
   repeat' first
   | (with_reducible exact ih0 _ _)
   | (with_reducible exact ih1 _ _ _ _)
   | (with_reducible exact ih2 _ _ _ _ _ _)
   | (with_reducible exact frame_Which.mono _ _)
   | (with_reducible exact frame_get.mono _ _)
   | (with_reducible exact frame_open.mono _ _)
   | (with_reducible exact LeO.refl _)
   | (with_reducible exact LeO.none _)
   | (with_reducible refine LeO.ite ?_ ?_)
   | (with_reducible refine LeO.bind ?_ (fun _ => ?_))
   | exact ih0 _ _
   | exact ih1 _ _ _ _
   | exact ih2 _ _ _ _ _ _
   | exact frame_Which.mono _ _
   | exact frame_get.mono _ _
   | exact frame_open.mono _ _
   | exact LeO.none _
   | refine LeO.ite ?_ ?_
   | refine LeO.bind ?_ (fun _ => ?_)
  ·intro y0 y1 y2 y3 y4 y5
   unfold frame_ReadData.l0
   repeat' first
   | (with_reducible exact ih0 _ _)
   | (with_reducible exact ih1 _ _ _ _)
   | (with_reducible exact ih2 _ _ _ _ _ _)
   | (with_reducible exact frame_Which.mono _ _)
   | (with_reducible exact frame_get.mono _ _)
   | (with_reducible exact frame_open.mono _ _)
   | (with_reducible exact LeO.refl _)
   | (with_reducible exact LeO.none _)
   | (with_reducible refine LeO.ite ?_ ?_)
   | (with_reducible refine LeO.bind ?_ (fun _ => ?_))
   | exact ih0 _ _
   | exact ih1 _ _ _ _
   | exact ih2 _ _ _ _ _ _
   | exact frame_Which.mono _ _
   | exact frame_get.mono _ _
   | exact frame_open.mono _ _
   | exact LeO.none _
   | refine LeO.ite ?_ ?_
   | refine LeO.bind ?_ (fun _ => ?_)
theorem frame_ReadData.mono : ∀ a0 k, LeO (frame_ReadData.f k a0) (frame_ReadData.f (k + 1) a0) := by
 intro a0 k
 obtain ⟨ih0, ih1, ih2⟩ := frame_ReadData.mono_l k
 unfold frame_ReadData.f
 repeat' first
   | (with_reducible exact ih0 _ _)
   | (with_reducible exact ih1 _ _ _ _)
   | (with_reducible exact ih2 _ _ _ _ _ _)
   | (with_reducible exact frame_Which.mono _ _)
   | (with_reducible exact frame_get.mono _ _)
   | (with_reducible exact frame_open.mono _ _)
   | (with_reducible exact LeO.refl _)
   | (with_reducible exact LeO.none _)
   | (with_reducible refine LeO.ite ?_ ?_)
   | (with_reducible refine LeO.bind ?_ (fun _ => ?_))
   | exact ih0 _ _
   | exact ih1 _ _ _ _
   | exact ih2 _ _ _ _ _ _
   | exact frame_Which.mono _ _
   | exact frame_get.mono _ _
   | exact frame_open.mono _ _
   | exact LeO.none _
   | refine LeO.ite ?_ ?_
   | refine LeO.bind ?_ (fun _ => ?_)
def frame_ReadData.T5 : Bool × List (List Nat × List Nat) := (true, [([], []), ([0], [0]), ([1], [1]), ([], []), ([3], [3]), ([4, 2], [4]), ([5], [5]), ([2, 5, 0, 1, 2], [2]), ([6, 7, 0, 1, 2, 3, 4, 5, 6, 7], [6])])
def frame_ReadData.B5 : List Nat := [0, 1, 3, 0, 8, 31, 63, 63, 255]
theorem frame_ReadData.tab5 : rtab .any (opsOf Try.f19 5) = frame_ReadData.T5 := by kernel_rfl
theorem frame_ReadData.bits5 : waitsOk frame_ReadData.T5.2 frame_ReadData.B5 = true := by kernel_rfl
def frame_ReadData.T14 : Bool × List (List Nat × List Nat) := (true, [([], []), ([0], [0]), ([1], [1]), ([2], [2]), ([], []), ([4], [4]), ([5], [5]), ([6], [6]), ([], []), ([8], [8]), ([], []), ([], []), ([11], [11]), ([10, 12], [10, 12]), ([13], [13]), ([], []), ([15], [15]), ([3, 7, 9, 14, 16], [3, 7, 9, 14, 16]), ([], []), ([18, 17, 0, 1, 2, 3, 4, 5, 6, 7, 8, 9, 10, 11, 12, 13, 14, 15, 16, 17, 18], [17, 18])])
def frame_ReadData.B14 : List Nat := [0, 1, 3, 7, 0, 16, 48, 112, 0, 256, 0, 0, 2048, 7168, 15360, 0, 32768, 131071, 0, 524287]
theorem frame_ReadData.tab14 : rtab .any (opsOf Try.f19 14) = frame_ReadData.T14 := by kernel_rfl
theorem frame_ReadData.bits14 : waitsOk frame_ReadData.T14.2 frame_ReadData.B14 = true := by kernel_rfl
set_option maxHeartbeats 8000000 in
set_option maxRecDepth 100000 in
theorem frame_ReadData.calls (k : Nat) (A0 : Option Addr) (c0 : Nat) (l0 : List Int) (r1 : Int) (r2 : Int) (r3 : Int) (r4 : ByteArray) (r5 : Int) (r6 : Int) (w : World) (hr0 : Kd.C (Kd.int .u8) w A0 l0.length l0) (hc0 : l0.length ≤ c0) (h : frame_ReadData.f k l0 = some (r1, r2, r3, r4, r5, r6)) :
  Calls Try.prog 19 #[.slice A0 l0.length c0] w fun e w' => e = .returned (.tuple #[.agg #[.int .i64 r1, .int .i64 r2, .int .i64 r3, .string r4, .int .i64 r5], .int .i64 r6]) ∧ Below w.heap.size w w' := by
 have hu36 := Try.underlying36
 have HR0 := Azz.mk hr0
 have HC0 := Azz.mk hc0
 clear hr0 hc0
 have HB := Azz.mk (Below.refl w.heap.size w)
 have H : (if (l0.length : Int) < 64 then (frame_ReadData.j0 k l0 true) else (if (l0.length : Int) > 1518 then (frame_ReadData.j0 k l0 true) else ((frame_Which.f k l0).bind fun t205 => (frame_ReadData.j0 k l0 (t205 != 2))))) = some (r1, r2, r3, r4, r5, r6) := h
 clear h
 have HC2 := Azz.mk H
 clear H
 go_enter Try.func19, Try.ntmps19
 go_upto_region 1 with (first | ((with_reducible refine gate_dst (N := 2) rfl ?_); (try (refine gate_guard (by rfl) ?_; dsimp only)); refine box_event ?hg (N := 2) ?hd (cs := #[.int .i64 0, .int .i64 0, .int .i64 0, .string (⟨#[]⟩ : ByteArray), .int .i64 0]) (t := 36) ?hr ?_; (case hd => rfl); (case hg => rfl); (case hr => first | (go_simp; done) | (go_simp; rfl)); intro gb204 hg w3 hbox hb; have n0_ := Azz.mk (below_step (by repeat (first | (with_reducible first | exact HB.out | apply bal | apply pbN | apply bd1) | exact HB.out)) hb); have n1_ := Azz.mk (hbox); have n2_ := Azz.mk ((by rw [hg]; exact (below_size (by repeat (first | (with_reducible first | exact HB.out | apply bal | apply pbN | apply bd1) | exact HB.out))) : w.heap.size ≤ gb204)); have n3_ := Azz.mk ((by rw [hg]; exact (below_size (by repeat (first | (with_reducible first | exact HB.out | apply bal | apply pbN | apply bd1) | exact HB.out))) : w.heap.size ≤ gb204)); clear HB; have HB := n0_; have BK204 := n1_; have GW204 := n2_; have GE204 := n3_; clear n0_ n1_ n2_ n3_; clear hb hbox hg))
 (try simp only [Act.put, List.setIfInBounds_toArray, List.set_cons_zero, List.set_cons_succ])
 go_cut [9] (fun v9 wc => ∃ (kq : Nat) (x9_1 : Bool), v9 = .bool x9_1 ∧ Azz (frame_ReadData.j0 kq l0 x9_1 = some (r1, r2, r3, r4, r5, r6)) ∧ Azz (kq ≤ k) ∧ Azz (wc.heap[gb204]? = some (.cells #[.int .i64 0, .int .i64 0, .int .i64 0, .string (⟨#[]⟩ : ByteArray), .int .i64 0] 36 (0, 0))) ∧ Azz (Below w.heap.size w wc))
 case first =>
  have H := HC2.out
  clear HC2
  by_cases c4 : (l0.length : Int) < 64
  ·rw [if_pos c4] at H
   have c4b0 : decide ((l0.length : Int) < 64) = true := decide_eq_true c4
   have c4b1 : decide (l0.length < 64) = true := decide_eq_true (by omega)
   clear c4
   (first | rw [c4b0] | (simp only [i64_w, i32_w]; rw [c4b0]) | skip)
   have H' := Azz.mk H
   clear H
   go_wp2
   go_meet
   case rel => exact ⟨_, (true), (by first | rfl | (simp; done) | (simp [*]; done)), H', ⟨by first | omega | exact Nat.le_refl _⟩, ⟨by (with_reducible repeat (first | refine kdN ?_ _ | refine kd1 ?_ | refine kal ?_ _)); exact BK204.out⟩, ⟨by repeat (first | (with_reducible first | exact HB.out | apply bal | apply pbN | apply bd1 | refine bst ?_ GE204.out) | exact HB.out)⟩⟩
  ·rw [if_neg c4] at H
   have c4b0 : decide ((l0.length : Int) < 64) = false := decide_eq_false c4
   have c4b1 : decide (l0.length < 64) = false := decide_eq_false (by omega)
   clear c4
   (first | rw [c4b0] | (simp only [i64_w, i32_w]; rw [c4b0]) | skip)
   by_cases c5 : (l0.length : Int) > 1518
   ·rw [if_pos c5] at H
    have c5b0 : decide (1518 < (l0.length : Int)) = true := decide_eq_true c5
    have c5b1 : decide (1518 < l0.length) = true := decide_eq_true (by omega)
    clear c5
    have H' := Azz.mk H
    clear H
    go_wp2
    go_meet
    case rel => exact ⟨_, (true), (by first | rfl | (simp; done) | (simp [*]; done)), H', ⟨by first | omega | exact Nat.le_refl _⟩, ⟨by (with_reducible repeat (first | refine kdN ?_ _ | refine kd1 ?_ | refine kal ?_ _)); exact BK204.out⟩, ⟨by repeat (first | (with_reducible first | exact HB.out | apply bal | apply pbN | apply bd1 | refine bst ?_ GE204.out) | exact HB.out)⟩⟩
   ·rw [if_neg c5] at H
    have c5b0 : decide (1518 < (l0.length : Int)) = false := decide_eq_false c5
    have c5b1 : decide (1518 < l0.length) = false := decide_eq_false (by omega)
    clear c5
    replace H := Option.bind_eq_some_iff.mp H
    obtain ⟨t205, A60, H⟩ := H
    replace H : (frame_ReadData.j0 k l0 (t205 != 2)) = some (r1, r2, r3, r4, r5, r6) := H
    have A6 := Azz.mk A60
    clear A60
    have H' := Azz.mk H
    clear H
    go_wp2_with (first | (go_at_call 16; (with_reducible refine (frame_Which.calls k _ _ l0 t205 _ ?side1 ?side2 A6.out).mono ?_); (case side1 => repeat (first | exact (Kd.C_below HR0.out HB.out) | (with_reducible refine Kd.C_alloc ?_ _) | (with_reducible refine Kd.C_drewN ?_ _) | (with_reducible refine Kd.C_drew ?_))); (case side2 => exact HC0.out); rintro e w' ⟨rfl, ⟨nd, rfl⟩⟩))
    go_meet
    case rel => exact ⟨_, ((t205 != 2)), (by first | rfl | (simp; done) | (simp [*]; done)), H', ⟨by first | omega | exact Nat.le_refl _⟩, ⟨by (with_reducible repeat (first | refine kdN ?_ _ | refine kd1 ?_ | refine kal ?_ _)); exact BK204.out⟩, ⟨by repeat (first | (with_reducible first | exact HB.out | apply bal | apply pbN | apply bd1 | refine bst ?_ GE204.out) | exact HB.out)⟩⟩
 case rest =>
  clear HC2
  try clear c1
  try clear p2
  try clear c4
  try clear c4b0
  try clear c4b1
  try clear c5
  try clear c5b0
  try clear c5b1
  obtain ⟨kq, x9_1, rfl, HA, HJ1, BK204, HB⟩ := hcut
  cases kq with
  | zero => exact absurd HA.out (by simp [frame_ReadData.j0])
  | succ kj1 =>
   have H := HA.out
   clear HA
   simp only [frame_ReadData.j0] at H
   by_cases c7 : x9_1 = true
   ·subst c7
    have H1 : (some (0, 0, 0, (⟨#[]⟩ : ByteArray), 0, 2)) = some (r1, r2, r3, r4, r5, r6) := by rw [if_pos rfl] at H; exact H
    clear H
    have H := H1
    clear H1
    simp only [Option.some.injEq, Prod.mk.injEq] at H
    obtain ⟨rfl, rfl, rfl, rfl, rfl, rfl⟩ := H
    have hcz8_0 : World.cell? _ ⟨gb204, 0, none⟩ = some (.int .i64 0) := (kcl BK204.out 0).trans rfl
    have hcz8_1 : World.cell? _ ⟨gb204, 1, none⟩ = some (.int .i64 0) := (kcl BK204.out 1).trans rfl
    have hcz8_2 : World.cell? _ ⟨gb204, 2, none⟩ = some (.int .i64 0) := (kcl BK204.out 2).trans rfl
    have hcz8_3 : World.cell? _ ⟨gb204, 3, none⟩ = some (.string (⟨#[]⟩ : ByteArray)) := (kcl BK204.out 3).trans rfl
    have hcz8_4 : World.cell? _ ⟨gb204, 4, none⟩ = some (.int .i64 0) := (kcl BK204.out 4).trans rfl
    have hfz8_0 := kfz BK204.out 0
    have hfz8_1 := kfz BK204.out 1
    have hfz8_2 := kfz BK204.out 2
    have hfz8_3 := kfz BK204.out 3
    have hfz8_4 := kfz BK204.out 4
    go_wp2
    refine bodyPost_ret (results_ct rfl _ _ gb204 36 #[.int .i64 0, .int .i64 0, .int .i64 0, .string (⟨#[]⟩ : ByteArray), .int .i64 0] (0, 0) _ rfl (by (with_reducible repeat (first | refine kdN ?_ _ | refine kd1 ?_ | refine kal ?_ _)); refine blk_put (cs := #[.int .i64 0, .int .i64 0, .int .i64 0, .string (⟨#[]⟩ : ByteArray), .int .i64 0]) ?_ 4 _ rfl; (with_reducible repeat (first | refine kdN ?_ _ | refine kd1 ?_ | refine kal ?_ _)); refine blk_put (cs := #[.int .i64 0, .int .i64 0, .int .i64 0, .string (⟨#[]⟩ : ByteArray), .int .i64 0]) ?_ 3 _ rfl; (with_reducible repeat (first | refine kdN ?_ _ | refine kd1 ?_ | refine kal ?_ _)); refine blk_put (cs := #[.int .i64 0, .int .i64 0, .int .i64 0, .string (⟨#[]⟩ : ByteArray), .int .i64 0]) ?_ 2 _ rfl; (with_reducible repeat (first | refine kdN ?_ _ | refine kd1 ?_ | refine kal ?_ _)); refine blk_put (cs := #[.int .i64 0, .int .i64 0, .int .i64 0, .string (⟨#[]⟩ : ByteArray), .int .i64 0]) ?_ 1 _ rfl; (with_reducible repeat (first | refine kdN ?_ _ | refine kd1 ?_ | refine kal ?_ _)); refine blk_put (cs := #[.int .i64 0, .int .i64 0, .int .i64 0, .string (⟨#[]⟩ : ByteArray), .int .i64 0]) ?_ 0 _ rfl; (with_reducible repeat (first | refine kdN ?_ _ | refine kd1 ?_ | refine kal ?_ _)); exact BK204.out) Try.underlying36 rfl (by kernel_rfl)) rfl ?_
    exact ⟨by first | rfl | (simp [errW_none, errW_some] <;> rfl) | (simp [*, errW_none, errW_some] <;> rfl), by repeat (first | (with_reducible first | exact HB.out | apply bal | apply pbN | apply bd1 | refine bst ?_ GE204.out) | exact HB.out)⟩
   ·replace c7 := Bool.eq_false_iff.mpr c7
    subst c7
    have H1 : ((frame_open.f kj1 l0).bind fun t206 => (if t206 = true then (if 8 ≤ (l0.length : Int) then ((frame_get.f kj1 ((l0.take 8).drop 4)).bind fun t211 => (if 10 ≤ (l0.length : Int) then ((frame_get.f kj1 ((l0.take 10).drop 8)).bind fun t216 => (if t211 > 2147483647 then (frame_ReadData.j1 kj1 l0 t211 (wrap64 (t216)) true) else (frame_ReadData.j1 kj1 l0 t211 (wrap64 (t216)) (decide ((wrap64 (t216)) > (wrap64 ((wrap64 ((l0.length : Int) - 10)) - 4))))))) else (none))) else (none)) else (some (0, 0, 0, (⟨#[]⟩ : ByteArray), 0, 8)))) = some (r1, r2, r3, r4, r5, r6) := by rw [if_neg (show ¬ (false = true) by decide)] at H; exact H
    clear H
    have H := H1
    clear H1
    replace H := Option.bind_eq_some_iff.mp H
    obtain ⟨t206, A90, H⟩ := H
    replace H : (if t206 = true then (if 8 ≤ (l0.length : Int) then ((frame_get.f kj1 ((l0.take 8).drop 4)).bind fun t211 => (if 10 ≤ (l0.length : Int) then ((frame_get.f kj1 ((l0.take 10).drop 8)).bind fun t216 => (if t211 > 2147483647 then (frame_ReadData.j1 kj1 l0 t211 (wrap64 (t216)) true) else (frame_ReadData.j1 kj1 l0 t211 (wrap64 (t216)) (decide ((wrap64 (t216)) > (wrap64 ((wrap64 ((l0.length : Int) - 10)) - 4))))))) else (none))) else (none)) else (some (0, 0, 0, (⟨#[]⟩ : ByteArray), 0, 8))) = some (r1, r2, r3, r4, r5, r6) := H
    have A9 := Azz.mk A90
    clear A90
    by_cases c10 : t206 = true
    ·subst c10
     have H1 : (if 8 ≤ (l0.length : Int) then ((frame_get.f kj1 ((l0.take 8).drop 4)).bind fun t211 => (if 10 ≤ (l0.length : Int) then ((frame_get.f kj1 ((l0.take 10).drop 8)).bind fun t216 => (if t211 > 2147483647 then (frame_ReadData.j1 kj1 l0 t211 (wrap64 (t216)) true) else (frame_ReadData.j1 kj1 l0 t211 (wrap64 (t216)) (decide ((wrap64 (t216)) > (wrap64 ((wrap64 ((l0.length : Int) - 10)) - 4))))))) else (none))) else (none)) = some (r1, r2, r3, r4, r5, r6) := by rw [if_pos rfl] at H; exact H
     clear H
     have H := H1
     clear H1
     by_cases c11 : 8 ≤ (l0.length : Int)
     ·rw [if_pos c11] at H
      have c11b0 := eq_true c11
      have c11b1 : decide (8 ≤ (l0.length : Int)) = true := decide_eq_true c11
      clear c11
      obtain ⟨y207, hy207⟩ : ∃ y_ : List Int, y_ = ((l0.take 8).drop 4) := ⟨_, rfl⟩
      replace H : ((frame_get.f kj1 y207).bind fun t211 => (if 10 ≤ (l0.length : Int) then ((frame_get.f kj1 ((l0.take 10).drop 8)).bind fun t216 => (if t211 > 2147483647 then (frame_ReadData.j1 kj1 l0 t211 (wrap64 (t216)) true) else (frame_ReadData.j1 kj1 l0 t211 (wrap64 (t216)) (decide ((wrap64 (t216)) > (wrap64 ((wrap64 ((l0.length : Int) - 10)) - 4))))))) else (none))) = some (r1, r2, r3, r4, r5, r6) := by first | (rw [hy207]; with_reducible exact H) | (have H2_ := (Option.bind_some _ _).symm.trans H; rw [hy207]; with_reducible exact H2_) | (have H2_ := (Option.bind_some _ _).symm.trans H; with_reducible exact H2_) | with_reducible exact H | (rw [hy207]; exact H) | exact H
      have Ny207 := Azz.mk hy207
      clear hy207
      replace H := Option.bind_eq_some_iff.mp H
      obtain ⟨t211, A120, H⟩ := H
      replace H : (if 10 ≤ (l0.length : Int) then ((frame_get.f kj1 ((l0.take 10).drop 8)).bind fun t216 => (if t211 > 2147483647 then (frame_ReadData.j1 kj1 l0 t211 (wrap64 (t216)) true) else (frame_ReadData.j1 kj1 l0 t211 (wrap64 (t216)) (decide ((wrap64 (t216)) > (wrap64 ((wrap64 ((l0.length : Int) - 10)) - 4))))))) else (none)) = some (r1, r2, r3, r4, r5, r6) := H
      have A12 := Azz.mk A120
      clear A120
      by_cases c13 : 10 ≤ (l0.length : Int)
      ·rw [if_pos c13] at H
       have c13b0 := eq_true c13
       have c13b1 : decide (10 ≤ (l0.length : Int)) = true := decide_eq_true c13
       clear c13
       obtain ⟨y212, hy212⟩ : ∃ y_ : List Int, y_ = ((l0.take 10).drop 8) := ⟨_, rfl⟩
       replace H : ((frame_get.f kj1 y212).bind fun t216 => (if t211 > 2147483647 then (frame_ReadData.j1 kj1 l0 t211 (wrap64 (t216)) true) else (frame_ReadData.j1 kj1 l0 t211 (wrap64 (t216)) (decide ((wrap64 (t216)) > (wrap64 ((wrap64 ((l0.length : Int) - 10)) - 4))))))) = some (r1, r2, r3, r4, r5, r6) := by first | (rw [hy212]; with_reducible exact H) | (have H2_ := (Option.bind_some _ _).symm.trans H; rw [hy212]; with_reducible exact H2_) | (have H2_ := (Option.bind_some _ _).symm.trans H; with_reducible exact H2_) | with_reducible exact H | (rw [hy212]; exact H) | exact H
       have Ny212 := Azz.mk hy212
       clear hy212
       replace H := Option.bind_eq_some_iff.mp H
       obtain ⟨t216, A140, H⟩ := H
       replace H : (if t211 > 2147483647 then (frame_ReadData.j1 kj1 l0 t211 (wrap64 (t216)) true) else (frame_ReadData.j1 kj1 l0 t211 (wrap64 (t216)) (decide ((wrap64 (t216)) > (wrap64 ((wrap64 ((l0.length : Int) - 10)) - 4)))))) = some (r1, r2, r3, r4, r5, r6) := H
       have A14 := Azz.mk A140
       clear A140
       have HC15 := Azz.mk H
       clear H
       try go_wp2_with (first | ((with_reducible refine gate_callee (f := 30) rfl ?_); refine goesL_ (some 26) rfl rfl Try.func30 (by kernel_rfl) rfl #[.slice A0 l0.length c0] rfl (by (try simp only [List.map_toArray, List.map_cons, List.map_nil]); first | done | rfl | (simp only [List.length_drop, List.length_take]; rfl)) ?_; (with_reducible refine (frame_open.calls kj1 _ _ l0 true _ ?side1 ?side2 A9.out).mono ?_); (case side1 => repeat (first | exact (Kd.C_below HR0.out HB.out) | (with_reducible refine Kd.C_alloc ?_ _) | (with_reducible refine Kd.C_drewN ?_ _) | (with_reducible refine Kd.C_drew ?_))); (case side2 => exact HC0.out); rintro e w' ⟨rfl, ⟨nd, rfl⟩⟩; refine ⟨_, rfl, ?_⟩))
       (try (rw [drewN_self wc]; generalize hq_ : World.drewN wc _ = wc; have n0_ : Azz (wc.heap[gb204]? = some (.cells #[.int .i64 0, .int .i64 0, .int .i64 0, .string (⟨#[]⟩ : ByteArray), .int .i64 0] 36 (0, 0))) := ⟨by rw [← hq_]; exact (by (with_reducible repeat (first | refine kdN ?_ _ | refine kd1 ?_ | refine kal ?_ _)); exact BK204.out)⟩; have n1_ : Azz (Below w.heap.size w wc) := ⟨by rw [← hq_]; exact (by repeat (first | (with_reducible first | exact HB.out | apply bal | apply pbN | apply bd1 | refine bst ?_ GE204.out) | exact HB.out))⟩; clear BK204 HB hq_; have BK204 := n0_; have HB := n1_; clear n0_ n1_))
       have n0_ := Azz.mk (kd1 BK204.out)
       have n1_ := Azz.mk (bd1 HB.out)
       clear BK204
       clear HB
       have BK204 := n0_
       have HB := n1_
       clear n0_ n1_
       have q17 : (8 : Int) ≤ ((l0.length : Int) : Int) := of_decide_eq_true (by first | (with_reducible assumption) | assumption)
       obtain ⟨i017, hi017, _, hsz17, _⟩ := info_parts info5
       have hroom17 : l0.length ≤ c0 := HC0.out
       have hC17 : Kd.C (Kd.int .u8) _ A0 l0.length l0 := HR0.out
       have ql17 : (4 : Int) ≤ (8 : Int) := (by omega)
       have hcut17 := cut_mid (P := Try.prog) 26 5 .i64 .i64 Try.underlying26 hi017 1 hsz17 A0 l0.length c0 4 8 (by omega) ql17 q17 hroom17
       have hr17 := Kd.C_mid (lo := (4 : Int).toNat) (hi := (8 : Int).toNat) (c := c0) hC17 (by omega) (by omega) hroom17
       obtain ⟨A17, hA17⟩ : ∃ A1, A1 = (if c0 = (4 : Int).toNat then A0 else (A0 : Option Addr).map (·.add ((4 : Int).toNat * 1))) := ⟨_, rfl⟩
       obtain ⟨c17, hc17⟩ : ∃ c1, c1 = c0 - (4 : Int).toNat := ⟨_, rfl⟩
       have hy17 : y207.length = (8 : Int).toNat - (4 : Int).toNat := (by rw [Ny207.out, List.length_drop, List.length_take] <;> omega)
       rw [show ((l0).take (8 : Int).toNat).drop (4 : Int).toNat = y207 from Ny207.out.symm] at hr17
       replace hr17 : Kd.C (Kd.int .u8) _ A17 y207.length y207 := (by rw [hA17]; exact hr17)
       rw [← hy17, ← hA17, ← hc17] at hcut17
       have HR210 := Azz.mk hr17
       have HC210 := Azz.mk (show y207.length ≤ c17 from by rw [hy17, hc17]; exact Nat.sub_le_sub_right (Nat.le_trans (by omega) hroom17) _)
       clear hr17 hC17 hroom17 hi017 hsz17 hc17
       have KY17 := Azz.mk hy17
       have KA17 := Azz.mk hA17
       clear hy17 hA17
       replace q17 := eq_true q17
       have q18 : (10 : Int) ≤ ((l0.length : Int) : Int) := of_decide_eq_true (by first | (with_reducible assumption) | assumption)
       obtain ⟨i018, hi018, _, hsz18, _⟩ := info_parts info5
       have hroom18 : l0.length ≤ c0 := HC0.out
       have hC18 : Kd.C (Kd.int .u8) _ A0 l0.length l0 := HR0.out
       have ql18 : (8 : Int) ≤ (10 : Int) := (by omega)
       have hcut18 := cut_mid (P := Try.prog) 26 5 .i64 .i64 Try.underlying26 hi018 1 hsz18 A0 l0.length c0 8 10 (by omega) ql18 q18 hroom18
       have hr18 := Kd.C_mid (lo := (8 : Int).toNat) (hi := (10 : Int).toNat) (c := c0) hC18 (by omega) (by omega) hroom18
       obtain ⟨A18, hA18⟩ : ∃ A1, A1 = (if c0 = (8 : Int).toNat then A0 else (A0 : Option Addr).map (·.add ((8 : Int).toNat * 1))) := ⟨_, rfl⟩
       obtain ⟨c18, hc18⟩ : ∃ c1, c1 = c0 - (8 : Int).toNat := ⟨_, rfl⟩
       have hy18 : y212.length = (10 : Int).toNat - (8 : Int).toNat := (by rw [Ny212.out, List.length_drop, List.length_take] <;> omega)
       rw [show ((l0).take (10 : Int).toNat).drop (8 : Int).toNat = y212 from Ny212.out.symm] at hr18
       replace hr18 : Kd.C (Kd.int .u8) _ A18 y212.length y212 := (by rw [hA18]; exact hr18)
       rw [← hy18, ← hA18, ← hc18] at hcut18
       have HR215 := Azz.mk hr18
       have HC215 := Azz.mk (show y212.length ≤ c18 from by rw [hy18, hc18]; exact Nat.sub_le_sub_right (Nat.le_trans (by omega) hroom18) _)
       clear hr18 hC18 hroom18 hi018 hsz18 hc18
       have KY18 := Azz.mk hy18
       have KA18 := Azz.mk hA18
       clear hy18 hA18
       replace q18 := eq_true q18
       refine start_ (n := 9) (S := fun w' => True) (ds := []) #[false, false, false, false, false, false, false, false, false] (by kernel_rfl) rfl rfl trivial (fun hHeld => ?_); refine with_tabW frame_ReadData.tab5 frame_ReadData.bits5 (fun HT_ HW_ => ?_)
       generalize wc.drew = w16 at BK204 HB HR210 HR215 hHeld ⊢
       refine pure_ (i := 0) (N := some 29) (v := ?_) (a' := ?_) #[true, false, false, false, false, false, false, false, false] rfl rfl (any_of HT_.out (by kernel_rfl)) (fun _ _ _ h => h) (Or.inl ⟨by rfl, ?_⟩) ?_ ?_
       rotate_left
       ·intro w'
        go_simp
        with_reducible rfl
       rotate_left
       ·simp only [Act.put, List.setIfInBounds_toArray, List.set_cons_zero, List.set_cons_succ, i64_w, i32_w]
        rfl
       refine pure_ (i := 1) (N := some 30) (v := ?_) (a' := ?_) #[true, true, false, false, false, false, false, false, false] rfl rfl (any_of HT_.out (by kernel_rfl)) (fun _ _ _ h => h) (Or.inl ⟨by rfl, ?_⟩) ?_ ?_
       rotate_left
       ·intro w'
        go_simp
        with_reducible rfl
       rotate_left
       ·simp only [Act.put, List.setIfInBounds_toArray, List.set_cons_zero, List.set_cons_succ, i64_w, i32_w]
        rfl
       refine pure_ (i := 3) (N := some 32) (v := ?_) (a' := ?_) #[true, true, false, true, false, false, false, false, false] rfl rfl (any_of HT_.out (by kernel_rfl)) (fun _ _ _ h => h) (Or.inl ⟨by rfl, ?_⟩) ?_ ?_
       rotate_left
       ·intro w'
        go_simp
        with_reducible rfl
       rotate_left
       ·simp only [Act.put, List.setIfInBounds_toArray, List.set_cons_zero, List.set_cons_succ, i64_w, i32_w]
        rfl
       refine pure_ (i := 4) (N := some 33) (v := ?_) (a' := ?_) #[true, true, false, true, true, false, false, false, false] rfl rfl (any_of HT_.out (by kernel_rfl)) (fun _ _ _ h => h) (Or.inl ⟨by rfl, ?_⟩) ?_ ?_
       rotate_left
       ·intro w'
        go_simp
        with_reducible rfl
       rotate_left
       ·simp only [Act.put, List.setIfInBounds_toArray, List.set_cons_zero, List.set_cons_succ, i64_w, i32_w]
        rfl
       refine one_ (i := 2) (N := some 31) #[true, true, true, true, true, false, false, false, false] rfl rfl (one_of HT_.out (by kernel_rfl)) (by decide) (fun K hK => ?_)
       refine goes_ Try.func31 (by kernel_rfl) rfl #[.slice A17 y207.length c17] (by rfl) rfl rfl (by (try simp only [List.map_toArray, List.map_cons, List.map_nil]); first | done | rfl | (simp only [List.length_drop, List.length_take]; rfl)) ?_
       with_reducible refine (frame_get.calls kj1 _ _ y207 t211 _ ?side1 ?side2 A12.out).mono ?_
       (case side1 => repeat (first | exact (Kd.C_below HR210.out HB.out) | (with_reducible refine Kd.C_alloc ?_ _) | (with_reducible refine Kd.C_drewN ?_ _) | (with_reducible refine Kd.C_drew ?_)))
       (case side2 => exact HC210.out)
       rintro e w' ⟨rfl, ⟨nd, rfl⟩⟩
       refine ⟨_, rfl, ?_⟩
       refine hK.out _ _ trivial (fun hHeld => ?_)
       clear hK K
       refine norm_ (a' := ?_) ?_ ?_
       rotate_left
       ·show Act.put _ (some 31) _ = _
        simp only [Act.put, List.setIfInBounds_toArray, List.set_cons_zero, List.set_cons_succ, i64_w, i32_w]
        rfl
       refine one_ (i := 5) (N := some 34) #[true, true, true, true, true, true, false, false, false] rfl rfl (one_of HT_.out (by kernel_rfl)) (by decide) (fun K hK => ?_)
       refine goes_ Try.func31 (by kernel_rfl) rfl #[.slice A18 y212.length c18] (by rfl) rfl rfl (by (try simp only [List.map_toArray, List.map_cons, List.map_nil]); first | done | rfl | (simp only [List.length_drop, List.length_take]; rfl)) ?_
       with_reducible refine (frame_get.calls kj1 _ _ y212 t216 _ ?side1 ?side2 A14.out).mono ?_
       (case side1 => repeat (first | exact (Kd.C_below HR215.out (by repeat (first | (with_reducible first | exact HB.out | apply bal | apply pbN | apply bd1 | refine bst ?_ GE204.out) | exact HB.out))) | (with_reducible refine Kd.C_alloc ?_ _) | (with_reducible refine Kd.C_drewN ?_ _) | (with_reducible refine Kd.C_drew ?_)))
       (case side2 => exact HC215.out)
       rintro e w' ⟨rfl, ⟨nd, rfl⟩⟩
       refine ⟨_, rfl, ?_⟩
       refine hK.out _ _ trivial (fun hHeld => ?_)
       clear hK K
       refine norm_ (a' := ?_) ?_ ?_
       rotate_left
       ·show Act.put _ (some 34) _ = _
        simp only [Act.put, List.setIfInBounds_toArray, List.set_cons_zero, List.set_cons_succ, i64_w, i32_w]
        rfl
       refine pure_ (i := 6) (N := some 35) (v := ?_) (a' := ?_) #[true, true, true, true, true, true, true, false, false] rfl rfl (any_of HT_.out (by kernel_rfl)) (fun _ _ _ h => h) (Or.inl ⟨by rfl, ?_⟩) ?_ ?_
       rotate_left
       ·intro w'
        go_simp
        with_reducible rfl
       rotate_left
       ·simp only [Act.put, List.setIfInBounds_toArray, List.set_cons_zero, List.set_cons_succ, i64_w, i32_w]
        rfl
       refine pure_ (i := 7) (N := some 4) (v := ?_) (a' := ?_) #[true, true, true, true, true, true, true, true, false] rfl rfl (any_of HT_.out (by kernel_rfl)) (fun _ _ _ h => h) (Or.inl ⟨by rfl, ?_⟩) ?_ ?_
       rotate_left
       ·intro w'
        go_simp
        with_reducible rfl
       rotate_left
       ·simp only [Act.put, List.setIfInBounds_toArray, List.set_cons_zero, List.set_cons_succ, i64_w, i32_w]
        rfl
       refine pure_ (i := 8) (N := some 5) (v := ?_) (a' := ?_) #[true, true, true, true, true, true, true, true, true] rfl rfl (any_of HT_.out (by kernel_rfl)) (fun _ _ _ h => h) (Or.inl ⟨by rfl, ?_⟩) ?_ ?_
       rotate_left
       ·intro w'
        go_simp
        with_reducible rfl
       rotate_left
       ·simp only [Act.put, List.setIfInBounds_toArray, List.set_cons_zero, List.set_cons_succ, i64_w, i32_w]
        rfl
       refine done_ (done_of HT_.out (by kernel_rfl)) ?_
       go_upto_region 6 with (fail)
       go_cut [45] (fun v45 wc => ∃ (kq : Nat) (x45_14 : Bool), v45 = .bool x45_14 ∧ Azz (frame_ReadData.j1 kq l0 t211 (wrap64 (t216)) x45_14 = some (r1, r2, r3, r4, r5, r6)) ∧ Azz (kq ≤ kj1) ∧ Azz (wc.heap[gb204]? = some (.cells #[.int .i64 0, .int .i64 0, .int .i64 0, .string (⟨#[]⟩ : ByteArray), .int .i64 0] 36 (0, 0))) ∧ Azz (Below w.heap.size w wc))
       case first =>
        have H := HC15.out
        clear HC15
        by_cases c19 : t211 > 2147483647
        ·rw [if_pos c19] at H
         have c19b0 : decide (2147483647 < t211) = true := decide_eq_true c19
         clear c19
         (first | rw [c19b0] | (simp only [i64_w, i32_w]; rw [c19b0]) | skip)
         have H' := Azz.mk H
         clear H
         go_wp2
         go_meet
         case rel => exact ⟨_, (true), (by first | rfl | (simp; done) | (simp [*]; done)), H', ⟨by have := HJ1.out; first | omega | exact Nat.le_refl _⟩, ⟨by (with_reducible repeat (first | refine kdN ?_ _ | refine kd1 ?_ | refine kal ?_ _)); exact BK204.out⟩, ⟨by repeat (first | (with_reducible first | exact HB.out | apply bal | apply pbN | apply bd1 | refine bst ?_ GE204.out) | exact HB.out)⟩⟩
        ·rw [if_neg c19] at H
         have c19b0 : decide (2147483647 < t211) = false := decide_eq_false c19
         clear c19
         (first | rw [c19b0] | (simp only [i64_w, i32_w]; rw [c19b0]) | skip)
         have H' := Azz.mk H
         clear H
         go_wp2
         go_meet
         case rel => exact ⟨_, (decide ((wrap64 (t216)) > (wrap64 ((wrap64 ((l0.length : Int) - 10)) - 4)))), (by first | rfl | (simp; done) | (simp [*]; done)), H', ⟨by have := HJ1.out; first | omega | exact Nat.le_refl _⟩, ⟨by (with_reducible repeat (first | refine kdN ?_ _ | refine kd1 ?_ | refine kal ?_ _)); exact BK204.out⟩, ⟨by repeat (first | (with_reducible first | exact HB.out | apply bal | apply pbN | apply bd1 | refine bst ?_ GE204.out) | exact HB.out)⟩⟩
       case rest =>
        clear HC15
        try clear c1
        try clear q1
        try clear p2
        try clear c3
        try clear c4
        try clear c4b0
        try clear c4b1
        try clear c5
        try clear c5b0
        try clear c5b1
        try clear p6
        try clear c7
        try clear c10
        try clear c11
        try clear c11b0
        try clear c11b1
        try clear c13
        try clear c13b0
        try clear c13b1
        try clear c17
        try clear q17
        try clear c18
        try clear q18
        try clear c19
        try clear c19b0
        try clear hcz8_0
        try clear hcz8_1
        try clear hcz8_2
        try clear hcz8_3
        try clear hcz8_4
        try clear hfz8_0
        try clear hfz8_1
        try clear hfz8_2
        try clear hfz8_3
        try clear hfz8_4
        try clear p2
        try clear q17
        try clear q18
        obtain ⟨kq, x45_14, rfl, HA, HJ14, BK204, HB⟩ := hcut
        cases kq with
        | zero => exact absurd HA.out (by simp [frame_ReadData.j1])
        | succ kj14 =>
         have H := HA.out
         clear HA
         simp only [frame_ReadData.j1] at H
         by_cases c20 : x45_14 = true
         ·subst c20
          have H1 : (some (0, 0, 0, (⟨#[]⟩ : ByteArray), 0, 2)) = some (r1, r2, r3, r4, r5, r6) := by rw [if_pos rfl] at H; exact H
          clear H
          have H := H1
          clear H1
          simp only [Option.some.injEq, Prod.mk.injEq] at H
          obtain ⟨rfl, rfl, rfl, rfl, rfl, rfl⟩ := H
          have hcz21_0 : World.cell? _ ⟨gb204, 0, none⟩ = some (.int .i64 0) := (kcl BK204.out 0).trans rfl
          have hcz21_1 : World.cell? _ ⟨gb204, 1, none⟩ = some (.int .i64 0) := (kcl BK204.out 1).trans rfl
          have hcz21_2 : World.cell? _ ⟨gb204, 2, none⟩ = some (.int .i64 0) := (kcl BK204.out 2).trans rfl
          have hcz21_3 : World.cell? _ ⟨gb204, 3, none⟩ = some (.string (⟨#[]⟩ : ByteArray)) := (kcl BK204.out 3).trans rfl
          have hcz21_4 : World.cell? _ ⟨gb204, 4, none⟩ = some (.int .i64 0) := (kcl BK204.out 4).trans rfl
          have hfz21_0 := kfz BK204.out 0
          have hfz21_1 := kfz BK204.out 1
          have hfz21_2 := kfz BK204.out 2
          have hfz21_3 := kfz BK204.out 3
          have hfz21_4 := kfz BK204.out 4
          go_wp2
          refine bodyPost_ret (results_ct rfl _ _ gb204 36 #[.int .i64 0, .int .i64 0, .int .i64 0, .string (⟨#[]⟩ : ByteArray), .int .i64 0] (0, 0) _ rfl (by (with_reducible repeat (first | refine kdN ?_ _ | refine kd1 ?_ | refine kal ?_ _)); refine blk_put (cs := #[.int .i64 0, .int .i64 0, .int .i64 0, .string (⟨#[]⟩ : ByteArray), .int .i64 0]) ?_ 4 _ rfl; (with_reducible repeat (first | refine kdN ?_ _ | refine kd1 ?_ | refine kal ?_ _)); refine blk_put (cs := #[.int .i64 0, .int .i64 0, .int .i64 0, .string (⟨#[]⟩ : ByteArray), .int .i64 0]) ?_ 3 _ rfl; (with_reducible repeat (first | refine kdN ?_ _ | refine kd1 ?_ | refine kal ?_ _)); refine blk_put (cs := #[.int .i64 0, .int .i64 0, .int .i64 0, .string (⟨#[]⟩ : ByteArray), .int .i64 0]) ?_ 2 _ rfl; (with_reducible repeat (first | refine kdN ?_ _ | refine kd1 ?_ | refine kal ?_ _)); refine blk_put (cs := #[.int .i64 0, .int .i64 0, .int .i64 0, .string (⟨#[]⟩ : ByteArray), .int .i64 0]) ?_ 1 _ rfl; (with_reducible repeat (first | refine kdN ?_ _ | refine kd1 ?_ | refine kal ?_ _)); refine blk_put (cs := #[.int .i64 0, .int .i64 0, .int .i64 0, .string (⟨#[]⟩ : ByteArray), .int .i64 0]) ?_ 0 _ rfl; (with_reducible repeat (first | refine kdN ?_ _ | refine kd1 ?_ | refine kal ?_ _)); exact BK204.out) Try.underlying36 rfl (by kernel_rfl)) rfl ?_
          exact ⟨by first | rfl | (simp [errW_none, errW_some] <;> rfl) | (simp [*, errW_none, errW_some] <;> rfl), by repeat (first | (with_reducible first | exact HB.out | apply bal | apply pbN | apply bd1 | refine bst ?_ GE204.out) | exact HB.out)⟩
         ·replace c20 := Bool.eq_false_iff.mpr c20
          subst c20
          have H1 : (if 0 ≤ (wrap64 (10 + (wrap64 (t216)))) then (if (wrap64 (10 + (wrap64 (t216)))) ≤ (wrap64 ((l0.length : Int) - 4)) then (if (wrap64 ((l0.length : Int) - 4)) ≤ (l0.length : Int) then ((some ((l0.take ((wrap64 ((l0.length : Int) - 4)) : Int).toNat).drop ((wrap64 (10 + (wrap64 (t216)))) : Int).toNat : List Int)).bind fun y217 => (frame_ReadData.l0 kj14 l0 t211 (wrap64 (t216)) y217 (y217.length : Int) 0)) else (none)) else (none)) else (none)) = some (r1, r2, r3, r4, r5, r6) := by rw [if_neg (show ¬ (false = true) by decide)] at H; exact H
          clear H
          have H := H1
          clear H1
          obtain ⟨ji22, hji22⟩ : ∃ j_ : Int, (wrap64 (10 + (wrap64 (t216)))) = j_ := ⟨_, rfl⟩
          replace H : (if 0 ≤ (ji22) then (if (ji22) ≤ (wrap64 ((l0.length : Int) - 4)) then (if (wrap64 ((l0.length : Int) - 4)) ≤ (l0.length : Int) then ((some ((l0.take ((wrap64 ((l0.length : Int) - 4)) : Int).toNat).drop ((ji22) : Int).toNat : List Int)).bind fun y217 => (frame_ReadData.l0 kj14 l0 t211 (wrap64 (t216)) y217 (y217.length : Int) 0)) else (none)) else (none)) else (none)) = some (r1, r2, r3, r4, r5, r6) := by first | (rw [hji22] at H; exact H) | (simp only [hji22] at H ⊢; exact H)
          have hji22w : (IntKind.i64.wrap (10 + (wrap64 (t216)))) = ji22 := (i64_w _).trans hji22
          by_cases c23 : 0 ≤ (ji22)
          ·rw [if_pos c23] at H
           have c23b0 := eq_true c23
           have c23b1 : decide (0 ≤ (ji22)) = true := decide_eq_true c23
           clear c23
           by_cases c24 : (ji22) ≤ (wrap64 ((l0.length : Int) - 4))
           ·rw [if_pos c24] at H
            have c24b0 := eq_true c24
            have c24b1 : decide ((ji22) ≤ (wrap64 ((l0.length : Int) - 4))) = true := decide_eq_true c24
            clear c24
            by_cases c25 : (wrap64 ((l0.length : Int) - 4)) ≤ (l0.length : Int)
            ·rw [if_pos c25] at H
             have c25b0 := eq_true c25
             have c25b1 : decide ((wrap64 ((l0.length : Int) - 4)) ≤ (l0.length : Int)) = true := decide_eq_true c25
             clear c25
             obtain ⟨y217, hy217⟩ : ∃ y_ : List Int, y_ = ((l0.take ((wrap64 ((l0.length : Int) - 4)) : Int).toNat).drop ((ji22) : Int).toNat) := ⟨_, rfl⟩
             replace H : (frame_ReadData.l0 kj14 l0 t211 (wrap64 (t216)) y217 (y217.length : Int) 0) = some (r1, r2, r3, r4, r5, r6) := by first | (rw [hy217]; with_reducible exact H) | (have H2_ := (Option.bind_some _ _).symm.trans H; rw [hy217]; with_reducible exact H2_) | (have H2_ := (Option.bind_some _ _).symm.trans H; with_reducible exact H2_) | with_reducible exact H | (rw [hy217]; exact H) | exact H
             have Ny217 := Azz.mk hy217
             clear hy217
             have H' := Azz.mk H
             clear H
             have q26 : ((wrap64 ((l0.length : Int) - 4)) : Int) ≤ ((l0.length : Int) : Int) := of_decide_eq_true (by first | (with_reducible assumption) | assumption)
             obtain ⟨i026, hi026, _, hsz26, _⟩ := info_parts info5
             have hroom26 : l0.length ≤ c0 := HC0.out
             have hC26 : Kd.C (Kd.int .u8) _ A0 l0.length l0 := HR0.out
             have ql26 : ((ji22) : Int) ≤ ((wrap64 ((l0.length : Int) - 4)) : Int) := of_decide_eq_true (by first | (with_reducible assumption) | assumption)
             have q026 : (0 : Int) ≤ ((ji22) : Int) := of_decide_eq_true (by first | (with_reducible assumption) | assumption)
             have hcut26 := cut_mid (P := Try.prog) 26 5 .i64 .i64 Try.underlying26 hi026 1 hsz26 A0 l0.length c0 (ji22) (wrap64 ((l0.length : Int) - 4)) q026 ql26 q26 hroom26
             have hr26 := Kd.C_mid (lo := ((ji22) : Int).toNat) (hi := ((wrap64 ((l0.length : Int) - 4)) : Int).toNat) (c := c0) hC26 (by omega) (by omega) hroom26
             obtain ⟨A26, hA26⟩ : ∃ A1, A1 = (if c0 = ((ji22) : Int).toNat then A0 else (A0 : Option Addr).map (·.add (((ji22) : Int).toNat * 1))) := ⟨_, rfl⟩
             obtain ⟨c26, hc26⟩ : ∃ c1, c1 = c0 - ((ji22) : Int).toNat := ⟨_, rfl⟩
             have hy26 : y217.length = ((wrap64 ((l0.length : Int) - 4)) : Int).toNat - ((ji22) : Int).toNat := (by rw [Ny217.out, List.length_drop, List.length_take] <;> omega)
             rw [show ((l0).take ((wrap64 ((l0.length : Int) - 4)) : Int).toNat).drop ((ji22) : Int).toNat = y217 from Ny217.out.symm] at hr26
             replace hr26 : Kd.C (Kd.int .u8) _ A26 y217.length y217 := (by rw [hA26]; exact hr26)
             rw [← hy26, ← hA26, ← hc26] at hcut26
             have HR220 := Azz.mk hr26
             have HC220 := Azz.mk (show y217.length ≤ c26 from by rw [hy26, hc26]; exact Nat.sub_le_sub_right (Nat.le_trans (by omega) hroom26) _)
             clear hr26 hC26 hroom26 hi026 hsz26 hc26
             have KY26 := Azz.mk hy26
             have KA26 := Azz.mk hA26
             clear hy26 hA26
             (try simp only [hji22] at hcut26)
             replace q26 := eq_true q26
             go_wp2
             go_loopg [55] kj14 (fun kq v55 w' => ∃ (x55_3 : Int) (x205000_3 : Int) (x205001_3 : Int) (x205002_3 : Int) (x205003_3 : ByteArray) (x205004_3 : Int), v55 = .int .i64 x55_3 ∧ Azz (frame_ReadData.l0 kq l0 t211 (wrap64 (t216)) y217 (y217.length : Int) x55_3 = some (r1, r2, r3, r4, r5, r6)) ∧ Azz (kq ≤ kj14) ∧ Azz (w'.heap[gb204]? = some (.cells #[.int .i64 x205000_3, .int .i64 x205001_3, .int .i64 x205002_3, .string x205003_3, .int .i64 x205004_3] 36 (0, 0))) ∧ Azz (Below w.heap.size w w'))
             case atStart => exact ⟨(0), (0), (0), (0), ((⟨#[]⟩ : ByteArray)), (0), (by first | rfl | (simp; done) | (simp [*]; done)), H', ⟨Nat.le_refl _⟩, ⟨by (with_reducible repeat (first | refine kdN ?_ _ | refine kd1 ?_ | refine kal ?_ _)); exact BK204.out⟩, ⟨by repeat (first | (with_reducible first | exact HB.out | apply bal | apply pbN | apply bd1 | refine bst ?_ GE204.out) | exact HB.out)⟩⟩
             case round =>
              clear H'
              try clear c1
              try clear q1
              try clear c2
              try clear p2
              try clear q2
              try clear c3
              try clear c4
              try clear c4b0
              try clear c4b1
              try clear c5
              try clear c5b0
              try clear c5b1
              try clear p6
              try clear c7
              try clear c10
              try clear c11
              try clear c11b0
              try clear c11b1
              try clear c13
              try clear c13b0
              try clear c13b1
              try clear c17
              try clear q17
              try clear c18
              try clear q18
              try clear c19
              try clear c19b0
              try clear c20
              try clear c23
              try clear c23b0
              try clear c23b1
              try clear c24
              try clear c24b0
              try clear c24b1
              try clear c25
              try clear c25b0
              try clear c25b1
              try clear c26
              try clear q26
              try clear hcz21_0
              try clear hcz21_1
              try clear hcz21_2
              try clear hcz21_3
              try clear hcz21_4
              try clear hcz8_0
              try clear hcz8_1
              try clear hcz8_2
              try clear hcz8_3
              try clear hcz8_4
              try clear hfz21_0
              try clear hfz21_1
              try clear hfz21_2
              try clear hfz21_3
              try clear hfz21_4
              try clear hfz8_0
              try clear hfz8_1
              try clear hfz8_2
              try clear hfz8_3
              try clear hfz8_4
              try clear p2
              try clear p6
              try clear q026
              try clear q1
              try clear q17
              try clear q18
              try clear q26
              obtain ⟨x55_3, x205000_3, x205001_3, x205002_3, x205003_3, x205004_3, rfl, HA, HK3, BK204, HB⟩ := hrel
              cases gk with
              | zero => exact absurd HA.out (by simp [frame_ReadData.l0])
              | succ k3 =>
               have H := HA.out
               clear HA
               simp only [frame_ReadData.l0] at H
               by_cases c27 : x55_3 < (y217.length : Int)
               ·rw [if_pos c27] at H
                have c27b0 : decide (x55_3 < (y217.length : Int)) = true := decide_eq_true c27
                clear c27
                by_cases c28 : 0 ≤ x55_3
                ·rw [if_pos c28] at H
                 have c28b0 : decide (0 ≤ x55_3) = true := decide_eq_true c28
                 clear c28
                 by_cases c29 : x55_3 < (y217.length : Int)
                 ·rw [if_pos c29] at H
                  have c29b0 : decide (x55_3 < (y217.length : Int)) = true := decide_eq_true c29
                  clear c29
                  by_cases c30 : (rd y217 x55_3) = 0
                  ·rw [if_pos c30] at H
                   have c30b0 : ((rd y217 x55_3) == 0) = true := beq_iff_eq.mpr c30
                   have c30b1 : ((rd y217 x55_3) != 0) = false := bne_eq_false_iff_eq.mpr c30
                   clear c30
                   have H' := Azz.mk H
                   clear H
                   have p221 : 0 ≤ (x55_3 : Int) := of_decide_eq_true (by first | (with_reducible assumption) | assumption)
                   have q221 : x55_3 < (y217.length : Int) := of_decide_eq_true (by first | (with_reducible assumption) | assumption)
                   obtain ⟨ad221, e221, hx221_0⟩ := Kd.at_int HR220.out x55_3 p221 q221
                   cases e221
                   replace hx221_0 := (HB.out.cell (World.block_lt_of_cell? w _ hx221_0)).trans hx221_0
                   replace p221 := eq_true p221
                   replace q221 := eq_true q221
                   go_wp2
                   go_roundg k3
                   case measure => have := HJ1.out; have := HJ14.out; have := HK3.out; omega
                   case rel => exact ⟨(wrap64 (x55_3 + 1)), (x205000_3), (x205001_3), (x205002_3), (x205003_3), (x205004_3), (by first | rfl | (simp; done) | (simp [*]; done)), H', ⟨by have := HJ1.out; have := HJ14.out; have := HK3.out; omega⟩, ⟨by (with_reducible repeat (first | refine kdN ?_ _ | refine kd1 ?_ | refine kal ?_ _)); exact BK204.out⟩, ⟨by repeat (first | (with_reducible first | exact HB.out | apply bal | apply pbN | apply bd1 | refine bst ?_ GE204.out) | exact HB.out)⟩⟩
                  ·rw [if_neg c30] at H
                   have c30b0 : ((rd y217 x55_3) == 0) = false := beq_eq_false_iff_ne.mpr c30
                   have c30b1 : ((rd y217 x55_3) != 0) = true := bne_iff_ne.mpr c30
                   simp only [Option.some.injEq, Prod.mk.injEq] at H
                   obtain ⟨rfl, rfl, rfl, rfl, rfl, rfl⟩ := H
                   have p221 : 0 ≤ (x55_3 : Int) := of_decide_eq_true (by first | (with_reducible assumption) | assumption)
                   have q221 : x55_3 < (y217.length : Int) := of_decide_eq_true (by first | (with_reducible assumption) | assumption)
                   obtain ⟨ad221, e221, hx221_0⟩ := Kd.at_int HR220.out x55_3 p221 q221
                   cases e221
                   replace hx221_0 := (HB.out.cell (World.block_lt_of_cell? w _ hx221_0)).trans hx221_0
                   replace p221 := eq_true p221
                   replace q221 := eq_true q221
                   have hcz31_0 : World.cell? _ ⟨gb204, 0, none⟩ = some (.int .i64 x205000_3) := (kcl BK204.out 0).trans rfl
                   have hcz31_1 : World.cell? _ ⟨gb204, 1, none⟩ = some (.int .i64 x205001_3) := (kcl BK204.out 1).trans rfl
                   have hcz31_2 : World.cell? _ ⟨gb204, 2, none⟩ = some (.int .i64 x205002_3) := (kcl BK204.out 2).trans rfl
                   have hcz31_3 : World.cell? _ ⟨gb204, 3, none⟩ = some (.string x205003_3) := (kcl BK204.out 3).trans rfl
                   have hcz31_4 : World.cell? _ ⟨gb204, 4, none⟩ = some (.int .i64 x205004_3) := (kcl BK204.out 4).trans rfl
                   have hfz31_0 := kfz BK204.out 0
                   have hfz31_1 := kfz BK204.out 1
                   have hfz31_2 := kfz BK204.out 2
                   have hfz31_3 := kfz BK204.out 3
                   have hfz31_4 := kfz BK204.out 4
                   go_wp2
                   refine bodyPost_ret (results_ct rfl _ _ gb204 36 #[.int .i64 0, .int .i64 0, .int .i64 0, .string (⟨#[]⟩ : ByteArray), .int .i64 0] (0, 0) _ rfl (by (with_reducible repeat (first | refine kdN ?_ _ | refine kd1 ?_ | refine kal ?_ _)); refine blk_put (cs := #[.int .i64 0, .int .i64 0, .int .i64 0, .string (⟨#[]⟩ : ByteArray), .int .i64 x205004_3]) ?_ 4 _ rfl; (with_reducible repeat (first | refine kdN ?_ _ | refine kd1 ?_ | refine kal ?_ _)); refine blk_put (cs := #[.int .i64 0, .int .i64 0, .int .i64 0, .string x205003_3, .int .i64 x205004_3]) ?_ 3 _ rfl; (with_reducible repeat (first | refine kdN ?_ _ | refine kd1 ?_ | refine kal ?_ _)); refine blk_put (cs := #[.int .i64 0, .int .i64 0, .int .i64 x205002_3, .string x205003_3, .int .i64 x205004_3]) ?_ 2 _ rfl; (with_reducible repeat (first | refine kdN ?_ _ | refine kd1 ?_ | refine kal ?_ _)); refine blk_put (cs := #[.int .i64 0, .int .i64 x205001_3, .int .i64 x205002_3, .string x205003_3, .int .i64 x205004_3]) ?_ 1 _ rfl; (with_reducible repeat (first | refine kdN ?_ _ | refine kd1 ?_ | refine kal ?_ _)); refine blk_put (cs := #[.int .i64 x205000_3, .int .i64 x205001_3, .int .i64 x205002_3, .string x205003_3, .int .i64 x205004_3]) ?_ 0 _ rfl; (with_reducible repeat (first | refine kdN ?_ _ | refine kd1 ?_ | refine kal ?_ _)); exact BK204.out) Try.underlying36 rfl (by kernel_rfl)) rfl ?_
                   exact ⟨by first | rfl | (simp [errW_none, errW_some] <;> rfl) | (simp only [← hji22]; first | rfl | (simp [errW_none, errW_some] <;> rfl)) | (simp [*, errW_none, errW_some] <;> rfl), by repeat (first | (with_reducible first | exact HB.out | apply bal | apply pbN | apply bd1 | refine bst ?_ GE204.out) | exact HB.out)⟩
                 ·rw [if_neg c29] at H
                  exact absurd H (by simp)
                ·rw [if_neg c28] at H
                 exact absurd H (by simp)
               ·rw [if_neg c27] at H
                have c27b0 : decide (x55_3 < (y217.length : Int)) = false := decide_eq_false c27
                clear c27
                by_cases c32 : 2 < (l0.length : Int)
                ·rw [if_pos c32] at H
                 have c32b0 : decide (2 < (l0.length : Int)) = true := decide_eq_true c32
                 have c32b1 : decide (2 < l0.length) = true := decide_eq_true (by omega)
                 clear c32
                 by_cases c33 : 3 < (l0.length : Int)
                 ·rw [if_pos c33] at H
                  have c33b0 : decide (3 < (l0.length : Int)) = true := decide_eq_true c33
                  have c33b1 : decide (3 < l0.length) = true := decide_eq_true (by omega)
                  clear c33
                  by_cases c34 : 10 ≤ (wrap64 (10 + (wrap64 (t216))))
                  ·rw [if_pos c34] at H
                   have c34b0 := eq_true c34
                   have c34b1 : decide (10 ≤ (wrap64 (10 + (wrap64 (t216))))) = true := decide_eq_true c34
                   by_cases c35 : (wrap64 (10 + (wrap64 (t216)))) ≤ (l0.length : Int)
                   ·rw [if_pos c35] at H
                    have c35b0 := eq_true c35
                    have c35b1 : decide ((wrap64 (10 + (wrap64 (t216)))) ≤ (l0.length : Int)) = true := decide_eq_true c35
                    obtain ⟨y224, hy224⟩ : ∃ y_ : List Int, y_ = ((l0.take ((wrap64 (10 + (wrap64 (t216)))) : Int).toNat).drop 10) := ⟨_, rfl⟩
                    replace H : ((frame_rightData.f (wrap64 (rd l0 2)) (wrap64 (rd l0 3)) (wrap64 (t211)) (strOfNums y224) (l0.length : Int)).bind fun t229 => (if t229 = true then (some (wrap64 (rd l0 2), wrap64 (rd l0 3), wrap64 (t211), strOfNums y224, (l0.length : Int), 0)) else (some (0, 0, 0, (⟨#[]⟩ : ByteArray), 0, 2)))) = some (r1, r2, r3, r4, r5, r6) := by first | (rw [hy224]; with_reducible exact H) | (have H2_ := (Option.bind_some _ _).symm.trans H; rw [hy224]; with_reducible exact H2_) | (have H2_ := (Option.bind_some _ _).symm.trans H; with_reducible exact H2_) | with_reducible exact H | (rw [hy224]; exact H) | exact H
                    have Ny224 := Azz.mk hy224
                    clear hy224
                    replace H := Option.bind_eq_some_iff.mp H
                    obtain ⟨t229, A360, H⟩ := H
                    replace H : (if t229 = true then (some (wrap64 (rd l0 2), wrap64 (rd l0 3), wrap64 (t211), strOfNums y224, (l0.length : Int), 0)) else (some (0, 0, 0, (⟨#[]⟩ : ByteArray), 0, 2))) = some (r1, r2, r3, r4, r5, r6) := H
                    have A36 := Azz.mk A360
                    clear A360
                    by_cases c37 : t229 = true
                    ·subst c37
                     have H1 : (some (wrap64 (rd l0 2), wrap64 (rd l0 3), wrap64 (t211), strOfNums y224, (l0.length : Int), 0)) = some (r1, r2, r3, r4, r5, r6) := by rw [if_pos rfl] at H; exact H
                     clear H
                     have H := H1
                     clear H1
                     simp only [Option.some.injEq, Prod.mk.injEq] at H
                     obtain ⟨rfl, rfl, rfl, rfl, rfl, rfl⟩ := H
                     try go_wp2
                     have n0_ := Azz.mk (kd1 BK204.out)
                     have n1_ := Azz.mk (bd1 HB.out)
                     clear BK204
                     clear HB
                     have BK204 := n0_
                     have HB := n1_
                     clear n0_ n1_
                     have p222 : 0 ≤ (2 : Int) := (by omega)
                     have q222 : 2 < (l0.length : Int) := of_decide_eq_true (by first | (with_reducible assumption) | assumption)
                     obtain ⟨ad222, e222, hx222_0⟩ := Kd.at_int HR0.out 2 p222 q222
                     have hw222_0 := hx222_0
                     (try rw [show ((2 : Int)).toNat = 2 from rfl] at hw222_0)
                     (try rw [show 2 * 1 = 2 from rfl] at hw222_0)
                     (try simp only [Nat.reduceMul, Nat.reduceEqDiff, Go.Addr.add, ↓reduceIte] at hw222_0)
                     cases e222
                     (try simp only [show (2 : Int).toNat = 2 from rfl, Nat.reduceMul, Nat.reduceEqDiff, Go.Addr.add, ↓reduceIte] at hx222_0)
                     have qi222 : (2 < l0.length) = True := eq_true (by omega)
                     (try rw [show ((2 : Int)).toNat = 2 from rfl] at hx222_0)
                     replace hx222_0 := (HB.out.cell (World.block_lt_of_cell? w _ hx222_0)).trans hx222_0
                     replace p222 := eq_true p222
                     replace q222 := eq_true q222
                     have p223 : 0 ≤ (3 : Int) := (by omega)
                     have q223 : 3 < (l0.length : Int) := of_decide_eq_true (by first | (with_reducible assumption) | assumption)
                     obtain ⟨ad223, e223, hx223_0⟩ := Kd.at_int HR0.out 3 p223 q223
                     have hw223_0 := hx223_0
                     (try rw [show ((3 : Int)).toNat = 3 from rfl] at hw223_0)
                     (try rw [show 3 * 1 = 3 from rfl] at hw223_0)
                     (try simp only [Nat.reduceMul, Nat.reduceEqDiff, Go.Addr.add, ↓reduceIte] at hw223_0)
                     obtain rfl : ad222 = ad223 := (by injection e223)
                     (try simp only [show (3 : Int).toNat = 3 from rfl, Nat.reduceMul, Nat.reduceEqDiff, Go.Addr.add, ↓reduceIte] at hx223_0)
                     have qi223 : (3 < l0.length) = True := eq_true (by omega)
                     (try rw [show ((3 : Int)).toNat = 3 from rfl] at hx223_0)
                     replace hx223_0 := (HB.out.cell (World.block_lt_of_cell? w _ hx223_0)).trans hx223_0
                     replace p223 := eq_true p223
                     replace q223 := eq_true q223
                     have q39 : ((wrap64 (10 + (wrap64 (t216)))) : Int) ≤ ((l0.length : Int) : Int) := of_decide_eq_true (by first | (with_reducible assumption) | assumption)
                     obtain ⟨i039, hi039, _, hsz39, _⟩ := info_parts info5
                     have hroom39 : l0.length ≤ c0 := HC0.out
                     have hC39 : Kd.C (Kd.int .u8) _ (some ad222) l0.length l0 := HR0.out
                     have ql39 : (10 : Int) ≤ ((wrap64 (10 + (wrap64 (t216)))) : Int) := of_decide_eq_true (by first | (with_reducible assumption) | assumption)
                     have hcut39 := cut_mid (P := Try.prog) 26 5 .i64 .i64 Try.underlying26 hi039 1 hsz39 (some ad222) l0.length c0 10 (wrap64 (10 + (wrap64 (t216)))) (by omega) ql39 q39 hroom39
                     have hr39 := Kd.C_mid (lo := (10 : Int).toNat) (hi := ((wrap64 (10 + (wrap64 (t216)))) : Int).toNat) (c := c0) hC39 (by omega) (by omega) hroom39
                     obtain ⟨A39, hA39⟩ : ∃ A1, A1 = (if c0 = (10 : Int).toNat then (some ad222) else ((some ad222) : Option Addr).map (·.add ((10 : Int).toNat * 1))) := ⟨_, rfl⟩
                     obtain ⟨c39, hc39⟩ : ∃ c1, c1 = c0 - (10 : Int).toNat := ⟨_, rfl⟩
                     have hy39 : y224.length = ((wrap64 (10 + (wrap64 (t216)))) : Int).toNat - (10 : Int).toNat := (by rw [Ny224.out, List.length_drop, List.length_take] <;> omega)
                     rw [show ((l0).take ((wrap64 (10 + (wrap64 (t216)))) : Int).toNat).drop (10 : Int).toNat = y224 from Ny224.out.symm] at hr39
                     replace hr39 : Kd.C (Kd.int .u8) _ A39 y224.length y224 := (by rw [hA39]; exact hr39)
                     rw [← hy39, ← hA39, ← hc39] at hcut39
                     have HR227 := Azz.mk hr39
                     have HC227 := Azz.mk (show y224.length ≤ c39 from by rw [hy39, hc39]; exact Nat.sub_le_sub_right (Nat.le_trans (by omega) hroom39) _)
                     clear hr39 hC39 hroom39 hi039 hsz39 hc39
                     have KY39 := Azz.mk hy39
                     have KA39 := Azz.mk hA39
                     clear hy39 hA39
                     (try simp only [hji22] at hcut39)
                     replace q39 := eq_true q39
                     refine start_ (n := 20) (S := fun w' => w'.cell? ⟨ad222.block, ad222.off + 2, none⟩ = some (.int .u8 (rd l0 2)) ∧ w'.cell? ⟨ad222.block, ad222.off + 3, none⟩ = some (.int .u8 (rd l0 3)) ∧ Sem.run Try.prog (convert 26 9 (.slice A39 y224.length c39)) w' = .ok (.string (strOfNums y224)) w') (ds := []) #[false, false, false, false, false, false, false, false, false, false, false, false, false, false, false, false, false, false, false, false] (by kernel_rfl) rfl rfl ⟨((HB.out.cell (World.block_lt_of_cell? w _ hw222_0)).trans hw222_0), ((HB.out.cell (World.block_lt_of_cell? w _ hw223_0)).trans hw223_0), (Kd.C_string (P := Try.prog) (A := A39) (c := c39) Try.underlying26 Try.underlying5 Try.underlying9 (Kd.C_below HR227.out (by repeat (first | (with_reducible first | exact HB.out | apply bal | apply pbN | apply bd1 | refine bst ?_ GE204.out) | exact HB.out))))⟩ (fun hHeld => ?_); refine with_tabW frame_ReadData.tab14 frame_ReadData.bits14 (fun HT_ HW_ => ?_)
                     generalize wr.drew = w38 at BK204 HB HR227 hx222_0 hx223_0 hHeld ⊢
                     refine pure_ (i := 0) (N := some 63) (v := ?_) (a' := ?_) #[true, false, false, false, false, false, false, false, false, false, false, false, false, false, false, false, false, false, false, false] rfl rfl (any_of HT_.out (by kernel_rfl)) (fun _ _ _ h => h) (Or.inl ⟨by rfl, ?_⟩) ?_ ?_
                     rotate_left
                     ·intro w'
                      go_simp
                      with_reducible rfl
                     rotate_left
                     ·simp only [Act.put, List.setIfInBounds_toArray, List.set_cons_zero, List.set_cons_succ, i64_w, i32_w]
                      rfl
                     refine pure_ (i := 1) (N := some 64) (v := ?_) (a' := ?_) #[true, true, false, false, false, false, false, false, false, false, false, false, false, false, false, false, false, false, false, false] rfl rfl (any_of HT_.out (by kernel_rfl)) (fun _ _ _ h => h) (Or.inl ⟨by rfl, ?_⟩) ?_ ?_
                     rotate_left
                     ·intro w'
                      go_simp
                      with_reducible rfl
                     rotate_left
                     ·simp only [Act.put, List.setIfInBounds_toArray, List.set_cons_zero, List.set_cons_succ, i64_w, i32_w]
                      rfl
                     refine pure_ (i := 4) (N := some 67) (v := ?_) (a' := ?_) #[true, true, false, false, true, false, false, false, false, false, false, false, false, false, false, false, false, false, false, false] rfl rfl (any_of HT_.out (by kernel_rfl)) (fun _ _ _ h => h) (Or.inl ⟨by rfl, ?_⟩) ?_ ?_
                     rotate_left
                     ·intro w'
                      go_simp
                      with_reducible rfl
                     rotate_left
                     ·simp only [Act.put, List.setIfInBounds_toArray, List.set_cons_zero, List.set_cons_succ, i64_w, i32_w]
                      rfl
                     refine pure_ (i := 5) (N := some 68) (v := ?_) (a' := ?_) #[true, true, false, false, true, true, false, false, false, false, false, false, false, false, false, false, false, false, false, false] rfl rfl (any_of HT_.out (by kernel_rfl)) (fun _ _ _ h => h) (Or.inl ⟨by rfl, ?_⟩) ?_ ?_
                     rotate_left
                     ·intro w'
                      go_simp
                      with_reducible rfl
                     rotate_left
                     ·simp only [Act.put, List.setIfInBounds_toArray, List.set_cons_zero, List.set_cons_succ, i64_w, i32_w]
                      rfl
                     refine pure_ (i := 8) (N := some 71) (v := ?_) (a' := ?_) #[true, true, false, false, true, true, false, false, true, false, false, false, false, false, false, false, false, false, false, false] rfl rfl (any_of HT_.out (by kernel_rfl)) (fun _ _ _ h => h) (Or.inl ⟨by rfl, ?_⟩) ?_ ?_
                     rotate_left
                     ·intro w'
                      go_simp
                      with_reducible rfl
                     rotate_left
                     ·simp only [Act.put, List.setIfInBounds_toArray, List.set_cons_zero, List.set_cons_succ, i64_w, i32_w]
                      rfl
                     refine pure_ (i := 9) (N := some 72) (v := ?_) (a' := ?_) #[true, true, false, false, true, true, false, false, true, true, false, false, false, false, false, false, false, false, false, false] rfl rfl (any_of HT_.out (by kernel_rfl)) (fun _ _ _ h => h) (Or.inl ⟨by rfl, ?_⟩) ?_ ?_
                     rotate_left
                     ·intro w'
                      go_simp
                      with_reducible rfl
                     rotate_left
                     ·simp only [Act.put, List.setIfInBounds_toArray, List.set_cons_zero, List.set_cons_succ, i64_w, i32_w]
                      rfl
                     refine pure_ (i := 10) (N := some 73) (v := ?_) (a' := ?_) #[true, true, false, false, true, true, false, false, true, true, true, false, false, false, false, false, false, false, false, false] rfl rfl (any_of HT_.out (by kernel_rfl)) (fun _ _ _ h => h) (Or.inl ⟨by rfl, ?_⟩) ?_ ?_
                     rotate_left
                     ·intro w'
                      go_simp
                      with_reducible rfl
                     rotate_left
                     ·simp only [Act.put, List.setIfInBounds_toArray, List.set_cons_zero, List.set_cons_succ, i64_w, i32_w]
                      rfl
                     refine pure_ (i := 11) (N := some 74) (v := ?_) (a' := ?_) #[true, true, false, false, true, true, false, false, true, true, true, true, false, false, false, false, false, false, false, false] rfl rfl (any_of HT_.out (by kernel_rfl)) (fun _ _ _ h => h) (Or.inl ⟨by rfl, ?_⟩) ?_ ?_
                     rotate_left
                     ·intro w'
                      go_simp
                      with_reducible rfl
                     rotate_left
                     ·simp only [Act.put, List.setIfInBounds_toArray, List.set_cons_zero, List.set_cons_succ, i64_w, i32_w]
                      rfl
                     refine pure_ (i := 12) (N := some 75) (v := ?_) (a' := ?_) #[true, true, false, false, true, true, false, false, true, true, true, true, true, false, false, false, false, false, false, false] rfl rfl (any_of HT_.out (by kernel_rfl)) (fun _ _ _ h => h) (Or.inl ⟨by rfl, ?_⟩) ?_ ?_
                     rotate_left
                     ·intro w'
                      go_simp
                      with_reducible rfl
                     rotate_left
                     ·simp only [Act.put, List.setIfInBounds_toArray, List.set_cons_zero, List.set_cons_succ, i64_w, i32_w]
                      rfl
                     refine pure_ (i := 13) (N := some 76) (v := ?_) (a' := ?_) #[true, true, false, false, true, true, false, false, true, true, true, true, true, true, false, false, false, false, false, false] rfl rfl (any_of HT_.out (by kernel_rfl)) (fun _ _ _ h => h) (Or.inl ⟨by rfl, ?_⟩) ?_ ?_
                     rotate_left
                     ·intro w'
                      go_simp
                      with_reducible rfl
                     rotate_left
                     ·simp only [Act.put, List.setIfInBounds_toArray, List.set_cons_zero, List.set_cons_succ, i64_w, i32_w]
                      rfl
                     refine pure_ (i := 15) (N := some 78) (v := ?_) (a' := ?_) #[true, true, false, false, true, true, false, false, true, true, true, true, true, true, false, true, false, false, false, false] rfl rfl (any_of HT_.out (by kernel_rfl)) (fun _ _ _ h => h) (Or.inl ⟨by rfl, ?_⟩) ?_ ?_
                     rotate_left
                     ·intro w'
                      go_simp
                      with_reducible rfl
                     rotate_left
                     ·simp only [Act.put, List.setIfInBounds_toArray, List.set_cons_zero, List.set_cons_succ, i64_w, i32_w]
                      rfl
                     refine pure_ (i := 16) (N := some 79) (v := ?_) (a' := ?_) #[true, true, false, false, true, true, false, false, true, true, true, true, true, true, false, true, true, false, false, false] rfl rfl (any_of HT_.out (by kernel_rfl)) (fun _ _ _ h => h) (Or.inl ⟨by rfl, ?_⟩) ?_ ?_
                     rotate_left
                     ·intro w'
                      go_simp
                      with_reducible rfl
                     rotate_left
                     ·simp only [Act.put, List.setIfInBounds_toArray, List.set_cons_zero, List.set_cons_succ, i64_w, i32_w]
                      rfl
                     refine take_ (i := 2) (N := some 65) (v := ?_) (a' := ?_) #[true, true, true, false, true, true, false, false, true, true, true, true, true, true, false, true, true, false, false, false] rfl rfl (take_ofW HT_.out HW_.out (by kernel_rfl)) (fun _ _ _ h => h) (Or.inl ⟨by rfl, ?_⟩) hHeld ?_ ?_
                     rotate_left
                     ·rintro w' ⟨s0, s1, s2⟩
                      go_simp
                      with_reducible rfl
                     rotate_left
                     ·simp only [Act.put, List.setIfInBounds_toArray, List.set_cons_zero, List.set_cons_succ, i64_w, i32_w]
                      rfl
                     refine pure_ (i := 3) (N := some 66) (v := ?_) (a' := ?_) #[true, true, true, true, true, true, false, false, true, true, true, true, true, true, false, true, true, false, false, false] rfl rfl (any_of HT_.out (by kernel_rfl)) (fun _ _ _ h => h) (Or.inl ⟨by rfl, ?_⟩) ?_ ?_
                     rotate_left
                     ·intro w'
                      go_simp
                      with_reducible rfl
                     rotate_left
                     ·simp only [Act.put, List.setIfInBounds_toArray, List.set_cons_zero, List.set_cons_succ, i64_w, i32_w]
                      rfl
                     refine take_ (i := 6) (N := some 69) (v := ?_) (a' := ?_) #[true, true, true, true, true, true, true, false, true, true, true, true, true, true, false, true, true, false, false, false] rfl rfl (take_ofW HT_.out HW_.out (by kernel_rfl)) (fun _ _ _ h => h) (Or.inl ⟨by rfl, ?_⟩) hHeld ?_ ?_
                     rotate_left
                     ·rintro w' ⟨s0, s1, s2⟩
                      go_simp
                      with_reducible rfl
                     rotate_left
                     ·simp only [Act.put, List.setIfInBounds_toArray, List.set_cons_zero, List.set_cons_succ, i64_w, i32_w]
                      rfl
                     refine pure_ (i := 7) (N := some 70) (v := ?_) (a' := ?_) #[true, true, true, true, true, true, true, true, true, true, true, true, true, true, false, true, true, false, false, false] rfl rfl (any_of HT_.out (by kernel_rfl)) (fun _ _ _ h => h) (Or.inl ⟨by rfl, ?_⟩) ?_ ?_
                     rotate_left
                     ·intro w'
                      go_simp
                      with_reducible rfl
                     rotate_left
                     ·simp only [Act.put, List.setIfInBounds_toArray, List.set_cons_zero, List.set_cons_succ, i64_w, i32_w]
                      rfl
                     refine take_ (i := 14) (N := some 77) (v := ?_) (a' := ?_) #[true, true, true, true, true, true, true, true, true, true, true, true, true, true, true, true, true, false, false, false] rfl rfl (take_ofW HT_.out HW_.out (by kernel_rfl)) (fun _ _ _ h => h) (Or.inl ⟨by rfl, ?_⟩) hHeld ?_ ?_
                     rotate_left
                     ·rintro w' ⟨s0, s1, s2⟩
                      go_simp
                      with_reducible rfl
                     rotate_left
                     ·simp only [Act.put, List.setIfInBounds_toArray, List.set_cons_zero, List.set_cons_succ, i64_w, i32_w]
                      rfl
                     refine pure_ (i := 17) (N := some 80) (v := ?_) (a' := ?_) #[true, true, true, true, true, true, true, true, true, true, true, true, true, true, true, true, true, true, false, false] rfl rfl (any_of HT_.out (by kernel_rfl)) (fun _ _ _ h => h) (Or.inl ⟨by rfl, ?_⟩) ?_ ?_
                     rotate_left
                     ·intro w'
                      go_simp
                      with_reducible rfl
                     rotate_left
                     ·simp only [Act.put, List.setIfInBounds_toArray, List.set_cons_zero, List.set_cons_succ, i64_w, i32_w]
                      rfl
                     refine one_ (i := 18) (N := some 8) #[true, true, true, true, true, true, true, true, true, true, true, true, true, true, true, true, true, true, true, false] rfl rfl (one_of HT_.out (by kernel_rfl)) (by decide) (fun K hK => ?_)
                     refine box_step ?hg (N := 8) ?hd (cs := #[.int .i64 0, .int .i64 0, .int .i64 0, .string (⟨#[]⟩ : ByteArray), .int .i64 0]) (t := 36) ?hr ?_; (case hd => rfl); (case hg => rfl); (case hr => first | (go_simp; done) | (go_simp; rfl))
                     intro gb228 hg w40 hbox hb
                     have n0_ := Azz.mk (blk_below (g := gb204) (o := .cells #[.int .i64 x205000_3, .int .i64 x205001_3, .int .i64 x205002_3, .string x205003_3, .int .i64 x205004_3] 36 (0, 0)) (by (with_reducible repeat (first | refine kdN ?_ _ | refine kd1 ?_ | refine kal ?_ _)); exact BK204.out) hb)
                     have n1_ := Azz.mk (below_step (by repeat (first | (with_reducible first | exact HB.out | apply bal | apply pbN | apply bd1 | refine bst ?_ GE204.out) | exact HB.out)) hb)
                     have n2_ := Azz.mk (hbox)
                     have n3_ := Azz.mk ((by rw [hg]; exact (below_size (by repeat (first | (with_reducible first | exact HB.out | apply bal | apply pbN | apply bd1 | refine bst ?_ GE204.out) | exact HB.out))) : w.heap.size ≤ gb228))
                     have n4_ := Azz.mk ((by rw [hg]; exact (below_size (by repeat (first | (with_reducible first | exact HB.out | apply bal | apply pbN | apply bd1 | refine bst ?_ GE204.out) | exact HB.out))) : w.heap.size ≤ gb228))
                     have n5_ := Azz.mk ((by rw [hg]; exact Nat.ne_of_lt (blk_lt (g := gb204) (o := .cells #[.int .i64 x205000_3, .int .i64 x205001_3, .int .i64 x205002_3, .string x205003_3, .int .i64 x205004_3] 36 (0, 0)) (by (with_reducible repeat (first | refine kdN ?_ _ | refine kd1 ?_ | refine kal ?_ _)); exact BK204.out)) : gb204 ≠ gb228))
                     have n6_ := Azz.mk ((by rw [hg]; exact Nat.ne_of_gt (blk_lt (g := gb204) (o := .cells #[.int .i64 x205000_3, .int .i64 x205001_3, .int .i64 x205002_3, .string x205003_3, .int .i64 x205004_3] 36 (0, 0)) (by (with_reducible repeat (first | refine kdN ?_ _ | refine kd1 ?_ | refine kal ?_ _)); exact BK204.out)) : gb228 ≠ gb204))
                     clear BK204
                     clear HB
                     have BK204 := n0_
                     have HB := n1_
                     have BK228 := n2_
                     have GW228 := n3_
                     have GE228 := n4_
                     have NB204_228 := n5_
                     have NB228_204 := n6_
                     clear n0_ n1_ n2_ n3_ n4_ n5_ n6_
                     clear hb hbox hg
                     refine hK.out _ _ ⟨((HB.out.cell (World.block_lt_of_cell? w _ hw222_0)).trans hw222_0), ((HB.out.cell (World.block_lt_of_cell? w _ hw223_0)).trans hw223_0), (Kd.C_string (P := Try.prog) (A := A39) (c := c39) Try.underlying26 Try.underlying5 Try.underlying9 (Kd.C_below HR227.out (by repeat (first | (with_reducible first | exact HB.out | apply bal | apply pbN | apply bd1 | refine bst ?_ GE204.out) | exact HB.out))))⟩ (fun hHeld => ?_)
                     clear hK K
                     refine norm_ (a' := ?_) ?_ ?_
                     rotate_left
                     ·show Act.put _ (some 8) _ = _
                      simp only [Act.put, List.setIfInBounds_toArray, List.set_cons_zero, List.set_cons_succ, i64_w, i32_w]
                      rfl
                     refine one_ (i := 19) (N := none) #[true, true, true, true, true, true, true, true, true, true, true, true, true, true, true, true, true, true, true, true] rfl rfl (one_of HT_.out (by kernel_rfl)) (by decide) (fun K hK => ?_)
                     have hs41 : World.cell? _ ⟨gb228, 0, none⟩ = some (.int .i64 0) := (kcl BK228.out 0).trans rfl
                     have hfs41 := kfz BK228.out 0
                     have hns41_0 := NB204_228.out
                     have hms41_0 := NB228_204.out
                     have hs42 : World.cell? _ ⟨gb228, 1, none⟩ = some (.int .i64 0) := (kcl BK228.out 1).trans rfl
                     have hfs42 := kfz BK228.out 1
                     have hns42_0 := NB204_228.out
                     have hms42_0 := NB228_204.out
                     have hs43 : World.cell? _ ⟨gb228, 2, none⟩ = some (.int .i64 0) := (kcl BK228.out 2).trans rfl
                     have hfs43 := kfz BK228.out 2
                     have hns43_0 := NB204_228.out
                     have hms43_0 := NB228_204.out
                     have hs44 : World.cell? _ ⟨gb228, 3, none⟩ = some (.string (⟨#[]⟩ : ByteArray)) := (kcl BK228.out 3).trans rfl
                     have hfs44 := kfz BK228.out 3
                     have hns44_0 := NB204_228.out
                     have hms44_0 := NB228_204.out
                     have hs45 : World.cell? _ ⟨gb228, 4, none⟩ = some (.int .i64 0) := (kcl BK228.out 4).trans rfl
                     have hfs45 := kfz BK228.out 4
                     have hns45_0 := NB204_228.out
                     have hms45_0 := NB228_204.out
                     refine skip_ (w1 := ?_) (by rfl) rfl ?_ ?_
                     rotate_left
                     ·go_simp
                      rfl
                     refine hK.out _ _ ⟨((cell_far (p := ⟨gb228, _, none⟩) (cell_ne hw222_0 GW228.out) _).trans (((cell_far (p := ⟨gb228, _, none⟩) (cell_ne hw222_0 GW228.out) _).trans (((cell_far (p := ⟨gb228, _, none⟩) (cell_ne hw222_0 GW228.out) _).trans (((cell_far (p := ⟨gb228, _, none⟩) (cell_ne hw222_0 GW228.out) _).trans (((cell_far (p := ⟨gb228, _, none⟩) (cell_ne hw222_0 GW228.out) _).trans (hHeld.1)))))))))), ((cell_far (p := ⟨gb228, _, none⟩) (cell_ne hw223_0 GW228.out) _).trans (((cell_far (p := ⟨gb228, _, none⟩) (cell_ne hw223_0 GW228.out) _).trans (((cell_far (p := ⟨gb228, _, none⟩) (cell_ne hw223_0 GW228.out) _).trans (((cell_far (p := ⟨gb228, _, none⟩) (cell_ne hw223_0 GW228.out) _).trans (((cell_far (p := ⟨gb228, _, none⟩) (cell_ne hw223_0 GW228.out) _).trans (hHeld.2.1)))))))))), (Kd.C_string (P := Try.prog) (A := A39) (c := c39) Try.underlying26 Try.underlying5 Try.underlying9 (Kd.C_below HR227.out (by repeat (first | (with_reducible first | exact (bst (bst (bst (bst (bst HB.out GE228.out) GE228.out) GE228.out) GE228.out) GE228.out) | apply bal | apply pbN | apply bd1 | refine bst ?_ GE204.out) | exact (bst (bst (bst (bst (bst HB.out GE228.out) GE228.out) GE228.out) GE228.out) GE228.out)))))⟩ (fun hHeld => ?_)
                     clear hK K
                     refine done_ (done_of HT_.out (by kernel_rfl)) ?_
                     have hnb46 := NB228_204.out
                     have hnc46 := NB204_228.out
                     have hcz47_0 : World.cell? _ ⟨gb228, 0, none⟩ = some (.int .i64 0) := (kcl BK228.out 0).trans rfl
                     have hcz47_1 : World.cell? _ ⟨gb228, 1, none⟩ = some (.int .i64 0) := (kcl BK228.out 1).trans rfl
                     have hcz47_2 : World.cell? _ ⟨gb228, 2, none⟩ = some (.int .i64 0) := (kcl BK228.out 2).trans rfl
                     have hcz47_3 : World.cell? _ ⟨gb228, 3, none⟩ = some (.string (⟨#[]⟩ : ByteArray)) := (kcl BK228.out 3).trans rfl
                     have hcz47_4 : World.cell? _ ⟨gb228, 4, none⟩ = some (.int .i64 0) := (kcl BK228.out 4).trans rfl
                     have hfz47_0 := kfz BK228.out 0
                     have hfz47_1 := kfz BK228.out 1
                     have hfz47_2 := kfz BK228.out 2
                     have hfz47_3 := kfz BK228.out 3
                     have hfz47_4 := kfz BK228.out 4
                     try go_wp2_with (first | ((with_reducible refine gate_callee (f := 34) rfl ?_); refine goesL_ (some 82) rfl rfl Try.func34 (by kernel_rfl) rfl #[.agg #[.int .i64 (wrap64 (rd l0 2)), .int .i64 (wrap64 (rd l0 3)), .int .i64 (wrap64 (t211)), .string (strOfNums y224), .int .i64 (l0.length : Int)]] rfl (by (try simp only [List.map_toArray, List.map_cons, List.map_nil]); first | done | rfl | (simp only [List.length_drop, List.length_take]; rfl)) ?_; (with_reducible refine (frame_rightData.calls (wrap64 (rd l0 2)) (wrap64 (rd l0 3)) (wrap64 (t211)) (strOfNums y224) (l0.length : Int) true _ A36.out).mono ?_); rintro e w48 ⟨rfl, hb⟩; refine ⟨_, rfl, ?_⟩; have n0_ := Azz.mk (blk_below (g := gb204) (o := .cells #[.int .i64 x205000_3, .int .i64 x205001_3, .int .i64 x205002_3, .string x205003_3, .int .i64 x205004_3] 36 (0, 0)) (by (with_reducible repeat (first | refine kdN ?_ _ | refine kd1 ?_ | refine kal ?_ _)); refine blk_far ?_ NB204_228.out _; (with_reducible repeat (first | refine kdN ?_ _ | refine kd1 ?_ | refine kal ?_ _)); refine blk_far ?_ NB204_228.out _; (with_reducible repeat (first | refine kdN ?_ _ | refine kd1 ?_ | refine kal ?_ _)); refine blk_far ?_ NB204_228.out _; (with_reducible repeat (first | refine kdN ?_ _ | refine kd1 ?_ | refine kal ?_ _)); refine blk_far ?_ NB204_228.out _; (with_reducible repeat (first | refine kdN ?_ _ | refine kd1 ?_ | refine kal ?_ _)); refine blk_far ?_ NB204_228.out _; (with_reducible repeat (first | refine kdN ?_ _ | refine kd1 ?_ | refine kal ?_ _)); exact BK204.out) hb); have n1_ := Azz.mk (blk_below (g := gb228) (o := .cells #[.int .i64 (wrap64 (rd l0 2)), .int .i64 (wrap64 (rd l0 3)), .int .i64 (wrap64 (t211)), .string (strOfNums y224), .int .i64 (l0.length : Int)] 36 (0, 0)) (by (with_reducible repeat (first | refine kdN ?_ _ | refine kd1 ?_ | refine kal ?_ _)); refine blk_put (cs := #[.int .i64 (wrap64 (rd l0 2)), .int .i64 (wrap64 (rd l0 3)), .int .i64 (wrap64 (t211)), .string (strOfNums y224), .int .i64 0]) ?_ 4 _ rfl; (with_reducible repeat (first | refine kdN ?_ _ | refine kd1 ?_ | refine kal ?_ _)); refine blk_put (cs := #[.int .i64 (wrap64 (rd l0 2)), .int .i64 (wrap64 (rd l0 3)), .int .i64 (wrap64 (t211)), .string (⟨#[]⟩ : ByteArray), .int .i64 0]) ?_ 3 _ rfl; (with_reducible repeat (first | refine kdN ?_ _ | refine kd1 ?_ | refine kal ?_ _)); refine blk_put (cs := #[.int .i64 (wrap64 (rd l0 2)), .int .i64 (wrap64 (rd l0 3)), .int .i64 0, .string (⟨#[]⟩ : ByteArray), .int .i64 0]) ?_ 2 _ rfl; (with_reducible repeat (first | refine kdN ?_ _ | refine kd1 ?_ | refine kal ?_ _)); refine blk_put (cs := #[.int .i64 (wrap64 (rd l0 2)), .int .i64 0, .int .i64 0, .string (⟨#[]⟩ : ByteArray), .int .i64 0]) ?_ 1 _ rfl; (with_reducible repeat (first | refine kdN ?_ _ | refine kd1 ?_ | refine kal ?_ _)); refine blk_put (cs := #[.int .i64 0, .int .i64 0, .int .i64 0, .string (⟨#[]⟩ : ByteArray), .int .i64 0]) ?_ 0 _ rfl; (with_reducible repeat (first | refine kdN ?_ _ | refine kd1 ?_ | refine kal ?_ _)); exact BK228.out) hb); have n2_ := Azz.mk (below_step (by repeat (first | (with_reducible first | exact HB.out | apply bal | apply pbN | apply bd1 | refine bst ?_ GE204.out | refine bst ?_ GE228.out) | exact HB.out)) hb); clear BK204; clear BK228; clear HB; have BK204 := n0_; have BK228 := n1_; have HB := n2_; clear n0_ n1_ n2_; (try clear hb); (try clear hb2); (try clear hk); (try clear hi); have hcz49_0 : World.cell? _ ⟨gb228, 0, none⟩ = some (.int .i64 (wrap64 (rd l0 2))) := (kcl BK228.out 0).trans rfl; have hcz49_1 : World.cell? _ ⟨gb228, 1, none⟩ = some (.int .i64 (wrap64 (rd l0 3))) := (kcl BK228.out 1).trans rfl; have hcz49_2 : World.cell? _ ⟨gb228, 2, none⟩ = some (.int .i64 (wrap64 (t211))) := (kcl BK228.out 2).trans rfl; have hcz49_3 : World.cell? _ ⟨gb228, 3, none⟩ = some (.string (strOfNums y224)) := (kcl BK228.out 3).trans rfl; have hcz49_4 : World.cell? _ ⟨gb228, 4, none⟩ = some (.int .i64 (l0.length : Int)) := (kcl BK228.out 4).trans rfl; have hfz49_0 := kfz BK228.out 0; have hfz49_1 := kfz BK228.out 1; have hfz49_2 := kfz BK228.out 2; have hfz49_3 := kfz BK228.out 3; have hfz49_4 := kfz BK228.out 4; have hcz50_0 : World.cell? _ ⟨gb204, 0, none⟩ = some (.int .i64 x205000_3) := (kcl BK204.out 0).trans rfl; have hcz50_1 : World.cell? _ ⟨gb204, 1, none⟩ = some (.int .i64 x205001_3) := (kcl BK204.out 1).trans rfl; have hcz50_2 : World.cell? _ ⟨gb204, 2, none⟩ = some (.int .i64 x205002_3) := (kcl BK204.out 2).trans rfl; have hcz50_3 : World.cell? _ ⟨gb204, 3, none⟩ = some (.string x205003_3) := (kcl BK204.out 3).trans rfl; have hcz50_4 : World.cell? _ ⟨gb204, 4, none⟩ = some (.int .i64 x205004_3) := (kcl BK204.out 4).trans rfl; have hfz50_0 := kfz BK204.out 0; have hfz50_1 := kfz BK204.out 1; have hfz50_2 := kfz BK204.out 2; have hfz50_3 := kfz BK204.out 3; have hfz50_4 := kfz BK204.out 4))
                     refine bodyPost_ret (results_ct rfl _ _ gb204 36 #[.int .i64 (wrap64 (rd l0 2)), .int .i64 (wrap64 (rd l0 3)), .int .i64 (wrap64 (t211)), .string (strOfNums y224), .int .i64 (l0.length : Int)] (0, 0) _ rfl (by (with_reducible repeat (first | refine kdN ?_ _ | refine kd1 ?_ | refine kal ?_ _)); refine blk_put (cs := #[.int .i64 (wrap64 (rd l0 2)), .int .i64 (wrap64 (rd l0 3)), .int .i64 (wrap64 (t211)), .string (strOfNums y224), .int .i64 x205004_3]) ?_ 4 _ rfl; (with_reducible repeat (first | refine kdN ?_ _ | refine kd1 ?_ | refine kal ?_ _)); refine blk_put (cs := #[.int .i64 (wrap64 (rd l0 2)), .int .i64 (wrap64 (rd l0 3)), .int .i64 (wrap64 (t211)), .string x205003_3, .int .i64 x205004_3]) ?_ 3 _ rfl; (with_reducible repeat (first | refine kdN ?_ _ | refine kd1 ?_ | refine kal ?_ _)); refine blk_put (cs := #[.int .i64 (wrap64 (rd l0 2)), .int .i64 (wrap64 (rd l0 3)), .int .i64 x205002_3, .string x205003_3, .int .i64 x205004_3]) ?_ 2 _ rfl; (with_reducible repeat (first | refine kdN ?_ _ | refine kd1 ?_ | refine kal ?_ _)); refine blk_put (cs := #[.int .i64 (wrap64 (rd l0 2)), .int .i64 x205001_3, .int .i64 x205002_3, .string x205003_3, .int .i64 x205004_3]) ?_ 1 _ rfl; (with_reducible repeat (first | refine kdN ?_ _ | refine kd1 ?_ | refine kal ?_ _)); refine blk_put (cs := #[.int .i64 x205000_3, .int .i64 x205001_3, .int .i64 x205002_3, .string x205003_3, .int .i64 x205004_3]) ?_ 0 _ rfl; (with_reducible repeat (first | refine kdN ?_ _ | refine kd1 ?_ | refine kal ?_ _)); exact BK204.out) Try.underlying36 rfl (by kernel_rfl)) rfl ?_
                     exact ⟨by first | rfl | (simp [errW_none, errW_some] <;> rfl) | (simp only [← hji22]; first | rfl | (simp [errW_none, errW_some] <;> rfl)) | (simp [*, errW_none, errW_some] <;> rfl), by repeat (first | (with_reducible first | exact HB.out | apply bal | apply pbN | apply bd1 | refine bst ?_ GE204.out | refine bst ?_ GE228.out) | exact HB.out)⟩
                    ·replace c37 := Bool.eq_false_iff.mpr c37
                     subst c37
                     have H1 : (some (0, 0, 0, (⟨#[]⟩ : ByteArray), 0, 2)) = some (r1, r2, r3, r4, r5, r6) := by rw [if_neg (show ¬ (false = true) by decide)] at H; exact H
                     clear H
                     have H := H1
                     clear H1
                     simp only [Option.some.injEq, Prod.mk.injEq] at H
                     obtain ⟨rfl, rfl, rfl, rfl, rfl, rfl⟩ := H
                     try go_wp2
                     have n0_ := Azz.mk (kd1 BK204.out)
                     have n1_ := Azz.mk (bd1 HB.out)
                     clear BK204
                     clear HB
                     have BK204 := n0_
                     have HB := n1_
                     clear n0_ n1_
                     have p222 : 0 ≤ (2 : Int) := (by omega)
                     have q222 : 2 < (l0.length : Int) := of_decide_eq_true (by first | (with_reducible assumption) | assumption)
                     obtain ⟨ad222, e222, hx222_0⟩ := Kd.at_int HR0.out 2 p222 q222
                     have hw222_0 := hx222_0
                     (try rw [show ((2 : Int)).toNat = 2 from rfl] at hw222_0)
                     (try rw [show 2 * 1 = 2 from rfl] at hw222_0)
                     (try simp only [Nat.reduceMul, Nat.reduceEqDiff, Go.Addr.add, ↓reduceIte] at hw222_0)
                     cases e222
                     (try simp only [show (2 : Int).toNat = 2 from rfl, Nat.reduceMul, Nat.reduceEqDiff, Go.Addr.add, ↓reduceIte] at hx222_0)
                     have qi222 : (2 < l0.length) = True := eq_true (by omega)
                     (try rw [show ((2 : Int)).toNat = 2 from rfl] at hx222_0)
                     replace hx222_0 := (HB.out.cell (World.block_lt_of_cell? w _ hx222_0)).trans hx222_0
                     replace p222 := eq_true p222
                     replace q222 := eq_true q222
                     have p223 : 0 ≤ (3 : Int) := (by omega)
                     have q223 : 3 < (l0.length : Int) := of_decide_eq_true (by first | (with_reducible assumption) | assumption)
                     obtain ⟨ad223, e223, hx223_0⟩ := Kd.at_int HR0.out 3 p223 q223
                     have hw223_0 := hx223_0
                     (try rw [show ((3 : Int)).toNat = 3 from rfl] at hw223_0)
                     (try rw [show 3 * 1 = 3 from rfl] at hw223_0)
                     (try simp only [Nat.reduceMul, Nat.reduceEqDiff, Go.Addr.add, ↓reduceIte] at hw223_0)
                     obtain rfl : ad222 = ad223 := (by injection e223)
                     (try simp only [show (3 : Int).toNat = 3 from rfl, Nat.reduceMul, Nat.reduceEqDiff, Go.Addr.add, ↓reduceIte] at hx223_0)
                     have qi223 : (3 < l0.length) = True := eq_true (by omega)
                     (try rw [show ((3 : Int)).toNat = 3 from rfl] at hx223_0)
                     replace hx223_0 := (HB.out.cell (World.block_lt_of_cell? w _ hx223_0)).trans hx223_0
                     replace p223 := eq_true p223
                     replace q223 := eq_true q223
                     have q52 : ((wrap64 (10 + (wrap64 (t216)))) : Int) ≤ ((l0.length : Int) : Int) := of_decide_eq_true (by first | (with_reducible assumption) | assumption)
                     obtain ⟨i052, hi052, _, hsz52, _⟩ := info_parts info5
                     have hroom52 : l0.length ≤ c0 := HC0.out
                     have hC52 : Kd.C (Kd.int .u8) _ (some ad222) l0.length l0 := HR0.out
                     have ql52 : (10 : Int) ≤ ((wrap64 (10 + (wrap64 (t216)))) : Int) := of_decide_eq_true (by first | (with_reducible assumption) | assumption)
                     have hcut52 := cut_mid (P := Try.prog) 26 5 .i64 .i64 Try.underlying26 hi052 1 hsz52 (some ad222) l0.length c0 10 (wrap64 (10 + (wrap64 (t216)))) (by omega) ql52 q52 hroom52
                     have hr52 := Kd.C_mid (lo := (10 : Int).toNat) (hi := ((wrap64 (10 + (wrap64 (t216)))) : Int).toNat) (c := c0) hC52 (by omega) (by omega) hroom52
                     obtain ⟨A52, hA52⟩ : ∃ A1, A1 = (if c0 = (10 : Int).toNat then (some ad222) else ((some ad222) : Option Addr).map (·.add ((10 : Int).toNat * 1))) := ⟨_, rfl⟩
                     obtain ⟨c52, hc52⟩ : ∃ c1, c1 = c0 - (10 : Int).toNat := ⟨_, rfl⟩
                     have hy52 : y224.length = ((wrap64 (10 + (wrap64 (t216)))) : Int).toNat - (10 : Int).toNat := (by rw [Ny224.out, List.length_drop, List.length_take] <;> omega)
                     rw [show ((l0).take ((wrap64 (10 + (wrap64 (t216)))) : Int).toNat).drop (10 : Int).toNat = y224 from Ny224.out.symm] at hr52
                     replace hr52 : Kd.C (Kd.int .u8) _ A52 y224.length y224 := (by rw [hA52]; exact hr52)
                     rw [← hy52, ← hA52, ← hc52] at hcut52
                     have HR227 := Azz.mk hr52
                     have HC227 := Azz.mk (show y224.length ≤ c52 from by rw [hy52, hc52]; exact Nat.sub_le_sub_right (Nat.le_trans (by omega) hroom52) _)
                     clear hr52 hC52 hroom52 hi052 hsz52 hc52
                     have KY52 := Azz.mk hy52
                     have KA52 := Azz.mk hA52
                     clear hy52 hA52
                     (try simp only [hji22] at hcut52)
                     replace q52 := eq_true q52
                     refine start_ (n := 20) (S := fun w' => w'.cell? ⟨ad222.block, ad222.off + 2, none⟩ = some (.int .u8 (rd l0 2)) ∧ w'.cell? ⟨ad222.block, ad222.off + 3, none⟩ = some (.int .u8 (rd l0 3)) ∧ Sem.run Try.prog (convert 26 9 (.slice A52 y224.length c52)) w' = .ok (.string (strOfNums y224)) w') (ds := []) #[false, false, false, false, false, false, false, false, false, false, false, false, false, false, false, false, false, false, false, false] (by kernel_rfl) rfl rfl ⟨((HB.out.cell (World.block_lt_of_cell? w _ hw222_0)).trans hw222_0), ((HB.out.cell (World.block_lt_of_cell? w _ hw223_0)).trans hw223_0), (Kd.C_string (P := Try.prog) (A := A52) (c := c52) Try.underlying26 Try.underlying5 Try.underlying9 (Kd.C_below HR227.out (by repeat (first | (with_reducible first | exact HB.out | apply bal | apply pbN | apply bd1 | refine bst ?_ GE204.out) | exact HB.out))))⟩ (fun hHeld => ?_); refine with_tabW frame_ReadData.tab14 frame_ReadData.bits14 (fun HT_ HW_ => ?_)
                     generalize wr.drew = w51 at BK204 HB HR227 hx222_0 hx223_0 hHeld ⊢
                     refine pure_ (i := 0) (N := some 63) (v := ?_) (a' := ?_) #[true, false, false, false, false, false, false, false, false, false, false, false, false, false, false, false, false, false, false, false] rfl rfl (any_of HT_.out (by kernel_rfl)) (fun _ _ _ h => h) (Or.inl ⟨by rfl, ?_⟩) ?_ ?_
                     rotate_left
                     ·intro w'
                      go_simp
                      with_reducible rfl
                     rotate_left
                     ·simp only [Act.put, List.setIfInBounds_toArray, List.set_cons_zero, List.set_cons_succ, i64_w, i32_w]
                      rfl
                     refine pure_ (i := 1) (N := some 64) (v := ?_) (a' := ?_) #[true, true, false, false, false, false, false, false, false, false, false, false, false, false, false, false, false, false, false, false] rfl rfl (any_of HT_.out (by kernel_rfl)) (fun _ _ _ h => h) (Or.inl ⟨by rfl, ?_⟩) ?_ ?_
                     rotate_left
                     ·intro w'
                      go_simp
                      with_reducible rfl
                     rotate_left
                     ·simp only [Act.put, List.setIfInBounds_toArray, List.set_cons_zero, List.set_cons_succ, i64_w, i32_w]
                      rfl
                     refine pure_ (i := 4) (N := some 67) (v := ?_) (a' := ?_) #[true, true, false, false, true, false, false, false, false, false, false, false, false, false, false, false, false, false, false, false] rfl rfl (any_of HT_.out (by kernel_rfl)) (fun _ _ _ h => h) (Or.inl ⟨by rfl, ?_⟩) ?_ ?_
                     rotate_left
                     ·intro w'
                      go_simp
                      with_reducible rfl
                     rotate_left
                     ·simp only [Act.put, List.setIfInBounds_toArray, List.set_cons_zero, List.set_cons_succ, i64_w, i32_w]
                      rfl
                     refine pure_ (i := 5) (N := some 68) (v := ?_) (a' := ?_) #[true, true, false, false, true, true, false, false, false, false, false, false, false, false, false, false, false, false, false, false] rfl rfl (any_of HT_.out (by kernel_rfl)) (fun _ _ _ h => h) (Or.inl ⟨by rfl, ?_⟩) ?_ ?_
                     rotate_left
                     ·intro w'
                      go_simp
                      with_reducible rfl
                     rotate_left
                     ·simp only [Act.put, List.setIfInBounds_toArray, List.set_cons_zero, List.set_cons_succ, i64_w, i32_w]
                      rfl
                     refine pure_ (i := 8) (N := some 71) (v := ?_) (a' := ?_) #[true, true, false, false, true, true, false, false, true, false, false, false, false, false, false, false, false, false, false, false] rfl rfl (any_of HT_.out (by kernel_rfl)) (fun _ _ _ h => h) (Or.inl ⟨by rfl, ?_⟩) ?_ ?_
                     rotate_left
                     ·intro w'
                      go_simp
                      with_reducible rfl
                     rotate_left
                     ·simp only [Act.put, List.setIfInBounds_toArray, List.set_cons_zero, List.set_cons_succ, i64_w, i32_w]
                      rfl
                     refine pure_ (i := 9) (N := some 72) (v := ?_) (a' := ?_) #[true, true, false, false, true, true, false, false, true, true, false, false, false, false, false, false, false, false, false, false] rfl rfl (any_of HT_.out (by kernel_rfl)) (fun _ _ _ h => h) (Or.inl ⟨by rfl, ?_⟩) ?_ ?_
                     rotate_left
                     ·intro w'
                      go_simp
                      with_reducible rfl
                     rotate_left
                     ·simp only [Act.put, List.setIfInBounds_toArray, List.set_cons_zero, List.set_cons_succ, i64_w, i32_w]
                      rfl
                     refine pure_ (i := 10) (N := some 73) (v := ?_) (a' := ?_) #[true, true, false, false, true, true, false, false, true, true, true, false, false, false, false, false, false, false, false, false] rfl rfl (any_of HT_.out (by kernel_rfl)) (fun _ _ _ h => h) (Or.inl ⟨by rfl, ?_⟩) ?_ ?_
                     rotate_left
                     ·intro w'
                      go_simp
                      with_reducible rfl
                     rotate_left
                     ·simp only [Act.put, List.setIfInBounds_toArray, List.set_cons_zero, List.set_cons_succ, i64_w, i32_w]
                      rfl
                     refine pure_ (i := 11) (N := some 74) (v := ?_) (a' := ?_) #[true, true, false, false, true, true, false, false, true, true, true, true, false, false, false, false, false, false, false, false] rfl rfl (any_of HT_.out (by kernel_rfl)) (fun _ _ _ h => h) (Or.inl ⟨by rfl, ?_⟩) ?_ ?_
                     rotate_left
                     ·intro w'
                      go_simp
                      with_reducible rfl
                     rotate_left
                     ·simp only [Act.put, List.setIfInBounds_toArray, List.set_cons_zero, List.set_cons_succ, i64_w, i32_w]
                      rfl
                     refine pure_ (i := 12) (N := some 75) (v := ?_) (a' := ?_) #[true, true, false, false, true, true, false, false, true, true, true, true, true, false, false, false, false, false, false, false] rfl rfl (any_of HT_.out (by kernel_rfl)) (fun _ _ _ h => h) (Or.inl ⟨by rfl, ?_⟩) ?_ ?_
                     rotate_left
                     ·intro w'
                      go_simp
                      with_reducible rfl
                     rotate_left
                     ·simp only [Act.put, List.setIfInBounds_toArray, List.set_cons_zero, List.set_cons_succ, i64_w, i32_w]
                      rfl
                     refine pure_ (i := 13) (N := some 76) (v := ?_) (a' := ?_) #[true, true, false, false, true, true, false, false, true, true, true, true, true, true, false, false, false, false, false, false] rfl rfl (any_of HT_.out (by kernel_rfl)) (fun _ _ _ h => h) (Or.inl ⟨by rfl, ?_⟩) ?_ ?_
                     rotate_left
                     ·intro w'
                      go_simp
                      with_reducible rfl
                     rotate_left
                     ·simp only [Act.put, List.setIfInBounds_toArray, List.set_cons_zero, List.set_cons_succ, i64_w, i32_w]
                      rfl
                     refine pure_ (i := 15) (N := some 78) (v := ?_) (a' := ?_) #[true, true, false, false, true, true, false, false, true, true, true, true, true, true, false, true, false, false, false, false] rfl rfl (any_of HT_.out (by kernel_rfl)) (fun _ _ _ h => h) (Or.inl ⟨by rfl, ?_⟩) ?_ ?_
                     rotate_left
                     ·intro w'
                      go_simp
                      with_reducible rfl
                     rotate_left
                     ·simp only [Act.put, List.setIfInBounds_toArray, List.set_cons_zero, List.set_cons_succ, i64_w, i32_w]
                      rfl
                     refine pure_ (i := 16) (N := some 79) (v := ?_) (a' := ?_) #[true, true, false, false, true, true, false, false, true, true, true, true, true, true, false, true, true, false, false, false] rfl rfl (any_of HT_.out (by kernel_rfl)) (fun _ _ _ h => h) (Or.inl ⟨by rfl, ?_⟩) ?_ ?_
                     rotate_left
                     ·intro w'
                      go_simp
                      with_reducible rfl
                     rotate_left
                     ·simp only [Act.put, List.setIfInBounds_toArray, List.set_cons_zero, List.set_cons_succ, i64_w, i32_w]
                      rfl
                     refine take_ (i := 2) (N := some 65) (v := ?_) (a' := ?_) #[true, true, true, false, true, true, false, false, true, true, true, true, true, true, false, true, true, false, false, false] rfl rfl (take_ofW HT_.out HW_.out (by kernel_rfl)) (fun _ _ _ h => h) (Or.inl ⟨by rfl, ?_⟩) hHeld ?_ ?_
                     rotate_left
                     ·rintro w' ⟨s0, s1, s2⟩
                      go_simp
                      with_reducible rfl
                     rotate_left
                     ·simp only [Act.put, List.setIfInBounds_toArray, List.set_cons_zero, List.set_cons_succ, i64_w, i32_w]
                      rfl
                     refine pure_ (i := 3) (N := some 66) (v := ?_) (a' := ?_) #[true, true, true, true, true, true, false, false, true, true, true, true, true, true, false, true, true, false, false, false] rfl rfl (any_of HT_.out (by kernel_rfl)) (fun _ _ _ h => h) (Or.inl ⟨by rfl, ?_⟩) ?_ ?_
                     rotate_left
                     ·intro w'
                      go_simp
                      with_reducible rfl
                     rotate_left
                     ·simp only [Act.put, List.setIfInBounds_toArray, List.set_cons_zero, List.set_cons_succ, i64_w, i32_w]
                      rfl
                     refine take_ (i := 6) (N := some 69) (v := ?_) (a' := ?_) #[true, true, true, true, true, true, true, false, true, true, true, true, true, true, false, true, true, false, false, false] rfl rfl (take_ofW HT_.out HW_.out (by kernel_rfl)) (fun _ _ _ h => h) (Or.inl ⟨by rfl, ?_⟩) hHeld ?_ ?_
                     rotate_left
                     ·rintro w' ⟨s0, s1, s2⟩
                      go_simp
                      with_reducible rfl
                     rotate_left
                     ·simp only [Act.put, List.setIfInBounds_toArray, List.set_cons_zero, List.set_cons_succ, i64_w, i32_w]
                      rfl
                     refine pure_ (i := 7) (N := some 70) (v := ?_) (a' := ?_) #[true, true, true, true, true, true, true, true, true, true, true, true, true, true, false, true, true, false, false, false] rfl rfl (any_of HT_.out (by kernel_rfl)) (fun _ _ _ h => h) (Or.inl ⟨by rfl, ?_⟩) ?_ ?_
                     rotate_left
                     ·intro w'
                      go_simp
                      with_reducible rfl
                     rotate_left
                     ·simp only [Act.put, List.setIfInBounds_toArray, List.set_cons_zero, List.set_cons_succ, i64_w, i32_w]
                      rfl
                     refine take_ (i := 14) (N := some 77) (v := ?_) (a' := ?_) #[true, true, true, true, true, true, true, true, true, true, true, true, true, true, true, true, true, false, false, false] rfl rfl (take_ofW HT_.out HW_.out (by kernel_rfl)) (fun _ _ _ h => h) (Or.inl ⟨by rfl, ?_⟩) hHeld ?_ ?_
                     rotate_left
                     ·rintro w' ⟨s0, s1, s2⟩
                      go_simp
                      with_reducible rfl
                     rotate_left
                     ·simp only [Act.put, List.setIfInBounds_toArray, List.set_cons_zero, List.set_cons_succ, i64_w, i32_w]
                      rfl
                     refine pure_ (i := 17) (N := some 80) (v := ?_) (a' := ?_) #[true, true, true, true, true, true, true, true, true, true, true, true, true, true, true, true, true, true, false, false] rfl rfl (any_of HT_.out (by kernel_rfl)) (fun _ _ _ h => h) (Or.inl ⟨by rfl, ?_⟩) ?_ ?_
                     rotate_left
                     ·intro w'
                      go_simp
                      with_reducible rfl
                     rotate_left
                     ·simp only [Act.put, List.setIfInBounds_toArray, List.set_cons_zero, List.set_cons_succ, i64_w, i32_w]
                      rfl
                     refine one_ (i := 18) (N := some 8) #[true, true, true, true, true, true, true, true, true, true, true, true, true, true, true, true, true, true, true, false] rfl rfl (one_of HT_.out (by kernel_rfl)) (by decide) (fun K hK => ?_)
                     refine box_step ?hg (N := 8) ?hd (cs := #[.int .i64 0, .int .i64 0, .int .i64 0, .string (⟨#[]⟩ : ByteArray), .int .i64 0]) (t := 36) ?hr ?_; (case hd => rfl); (case hg => rfl); (case hr => first | (go_simp; done) | (go_simp; rfl))
                     intro gb228 hg w53 hbox hb
                     have n0_ := Azz.mk (blk_below (g := gb204) (o := .cells #[.int .i64 x205000_3, .int .i64 x205001_3, .int .i64 x205002_3, .string x205003_3, .int .i64 x205004_3] 36 (0, 0)) (by (with_reducible repeat (first | refine kdN ?_ _ | refine kd1 ?_ | refine kal ?_ _)); exact BK204.out) hb)
                     have n1_ := Azz.mk (below_step (by repeat (first | (with_reducible first | exact HB.out | apply bal | apply pbN | apply bd1 | refine bst ?_ GE204.out) | exact HB.out)) hb)
                     have n2_ := Azz.mk (hbox)
                     have n3_ := Azz.mk ((by rw [hg]; exact (below_size (by repeat (first | (with_reducible first | exact HB.out | apply bal | apply pbN | apply bd1 | refine bst ?_ GE204.out) | exact HB.out))) : w.heap.size ≤ gb228))
                     have n4_ := Azz.mk ((by rw [hg]; exact (below_size (by repeat (first | (with_reducible first | exact HB.out | apply bal | apply pbN | apply bd1 | refine bst ?_ GE204.out) | exact HB.out))) : w.heap.size ≤ gb228))
                     have n5_ := Azz.mk ((by rw [hg]; exact Nat.ne_of_lt (blk_lt (g := gb204) (o := .cells #[.int .i64 x205000_3, .int .i64 x205001_3, .int .i64 x205002_3, .string x205003_3, .int .i64 x205004_3] 36 (0, 0)) (by (with_reducible repeat (first | refine kdN ?_ _ | refine kd1 ?_ | refine kal ?_ _)); exact BK204.out)) : gb204 ≠ gb228))
                     have n6_ := Azz.mk ((by rw [hg]; exact Nat.ne_of_gt (blk_lt (g := gb204) (o := .cells #[.int .i64 x205000_3, .int .i64 x205001_3, .int .i64 x205002_3, .string x205003_3, .int .i64 x205004_3] 36 (0, 0)) (by (with_reducible repeat (first | refine kdN ?_ _ | refine kd1 ?_ | refine kal ?_ _)); exact BK204.out)) : gb228 ≠ gb204))
                     clear BK204
                     clear HB
                     have BK204 := n0_
                     have HB := n1_
                     have BK228 := n2_
                     have GW228 := n3_
                     have GE228 := n4_
                     have NB204_228 := n5_
                     have NB228_204 := n6_
                     clear n0_ n1_ n2_ n3_ n4_ n5_ n6_
                     clear hb hbox hg
                     refine hK.out _ _ ⟨((HB.out.cell (World.block_lt_of_cell? w _ hw222_0)).trans hw222_0), ((HB.out.cell (World.block_lt_of_cell? w _ hw223_0)).trans hw223_0), (Kd.C_string (P := Try.prog) (A := A52) (c := c52) Try.underlying26 Try.underlying5 Try.underlying9 (Kd.C_below HR227.out (by repeat (first | (with_reducible first | exact HB.out | apply bal | apply pbN | apply bd1 | refine bst ?_ GE204.out) | exact HB.out))))⟩ (fun hHeld => ?_)
                     clear hK K
                     refine norm_ (a' := ?_) ?_ ?_
                     rotate_left
                     ·show Act.put _ (some 8) _ = _
                      simp only [Act.put, List.setIfInBounds_toArray, List.set_cons_zero, List.set_cons_succ, i64_w, i32_w]
                      rfl
                     refine one_ (i := 19) (N := none) #[true, true, true, true, true, true, true, true, true, true, true, true, true, true, true, true, true, true, true, true] rfl rfl (one_of HT_.out (by kernel_rfl)) (by decide) (fun K hK => ?_)
                     have hs54 : World.cell? _ ⟨gb228, 0, none⟩ = some (.int .i64 0) := (kcl BK228.out 0).trans rfl
                     have hfs54 := kfz BK228.out 0
                     have hns54_0 := NB204_228.out
                     have hms54_0 := NB228_204.out
                     have hs55 : World.cell? _ ⟨gb228, 1, none⟩ = some (.int .i64 0) := (kcl BK228.out 1).trans rfl
                     have hfs55 := kfz BK228.out 1
                     have hns55_0 := NB204_228.out
                     have hms55_0 := NB228_204.out
                     have hs56 : World.cell? _ ⟨gb228, 2, none⟩ = some (.int .i64 0) := (kcl BK228.out 2).trans rfl
                     have hfs56 := kfz BK228.out 2
                     have hns56_0 := NB204_228.out
                     have hms56_0 := NB228_204.out
                     have hs57 : World.cell? _ ⟨gb228, 3, none⟩ = some (.string (⟨#[]⟩ : ByteArray)) := (kcl BK228.out 3).trans rfl
                     have hfs57 := kfz BK228.out 3
                     have hns57_0 := NB204_228.out
                     have hms57_0 := NB228_204.out
                     have hs58 : World.cell? _ ⟨gb228, 4, none⟩ = some (.int .i64 0) := (kcl BK228.out 4).trans rfl
                     have hfs58 := kfz BK228.out 4
                     have hns58_0 := NB204_228.out
                     have hms58_0 := NB228_204.out
                     refine skip_ (w1 := ?_) (by rfl) rfl ?_ ?_
                     rotate_left
                     ·go_simp
                      rfl
                     refine hK.out _ _ ⟨((cell_far (p := ⟨gb228, _, none⟩) (cell_ne hw222_0 GW228.out) _).trans (((cell_far (p := ⟨gb228, _, none⟩) (cell_ne hw222_0 GW228.out) _).trans (((cell_far (p := ⟨gb228, _, none⟩) (cell_ne hw222_0 GW228.out) _).trans (((cell_far (p := ⟨gb228, _, none⟩) (cell_ne hw222_0 GW228.out) _).trans (((cell_far (p := ⟨gb228, _, none⟩) (cell_ne hw222_0 GW228.out) _).trans (hHeld.1)))))))))), ((cell_far (p := ⟨gb228, _, none⟩) (cell_ne hw223_0 GW228.out) _).trans (((cell_far (p := ⟨gb228, _, none⟩) (cell_ne hw223_0 GW228.out) _).trans (((cell_far (p := ⟨gb228, _, none⟩) (cell_ne hw223_0 GW228.out) _).trans (((cell_far (p := ⟨gb228, _, none⟩) (cell_ne hw223_0 GW228.out) _).trans (((cell_far (p := ⟨gb228, _, none⟩) (cell_ne hw223_0 GW228.out) _).trans (hHeld.2.1)))))))))), (Kd.C_string (P := Try.prog) (A := A52) (c := c52) Try.underlying26 Try.underlying5 Try.underlying9 (Kd.C_below HR227.out (by repeat (first | (with_reducible first | exact (bst (bst (bst (bst (bst HB.out GE228.out) GE228.out) GE228.out) GE228.out) GE228.out) | apply bal | apply pbN | apply bd1 | refine bst ?_ GE204.out) | exact (bst (bst (bst (bst (bst HB.out GE228.out) GE228.out) GE228.out) GE228.out) GE228.out)))))⟩ (fun hHeld => ?_)
                     clear hK K
                     refine done_ (done_of HT_.out (by kernel_rfl)) ?_
                     have hnb59 := NB228_204.out
                     have hnc59 := NB204_228.out
                     have hcz60_0 : World.cell? _ ⟨gb228, 0, none⟩ = some (.int .i64 0) := (kcl BK228.out 0).trans rfl
                     have hcz60_1 : World.cell? _ ⟨gb228, 1, none⟩ = some (.int .i64 0) := (kcl BK228.out 1).trans rfl
                     have hcz60_2 : World.cell? _ ⟨gb228, 2, none⟩ = some (.int .i64 0) := (kcl BK228.out 2).trans rfl
                     have hcz60_3 : World.cell? _ ⟨gb228, 3, none⟩ = some (.string (⟨#[]⟩ : ByteArray)) := (kcl BK228.out 3).trans rfl
                     have hcz60_4 : World.cell? _ ⟨gb228, 4, none⟩ = some (.int .i64 0) := (kcl BK228.out 4).trans rfl
                     have hfz60_0 := kfz BK228.out 0
                     have hfz60_1 := kfz BK228.out 1
                     have hfz60_2 := kfz BK228.out 2
                     have hfz60_3 := kfz BK228.out 3
                     have hfz60_4 := kfz BK228.out 4
                     try go_wp2_with (first | ((with_reducible refine gate_callee (f := 34) rfl ?_); refine goesL_ (some 82) rfl rfl Try.func34 (by kernel_rfl) rfl #[.agg #[.int .i64 (wrap64 (rd l0 2)), .int .i64 (wrap64 (rd l0 3)), .int .i64 (wrap64 (t211)), .string (strOfNums y224), .int .i64 (l0.length : Int)]] rfl (by (try simp only [List.map_toArray, List.map_cons, List.map_nil]); first | done | rfl | (simp only [List.length_drop, List.length_take]; rfl)) ?_; (with_reducible refine (frame_rightData.calls (wrap64 (rd l0 2)) (wrap64 (rd l0 3)) (wrap64 (t211)) (strOfNums y224) (l0.length : Int) false _ A36.out).mono ?_); rintro e w61 ⟨rfl, hb⟩; refine ⟨_, rfl, ?_⟩; have n0_ := Azz.mk (blk_below (g := gb204) (o := .cells #[.int .i64 x205000_3, .int .i64 x205001_3, .int .i64 x205002_3, .string x205003_3, .int .i64 x205004_3] 36 (0, 0)) (by (with_reducible repeat (first | refine kdN ?_ _ | refine kd1 ?_ | refine kal ?_ _)); refine blk_far ?_ NB204_228.out _; (with_reducible repeat (first | refine kdN ?_ _ | refine kd1 ?_ | refine kal ?_ _)); refine blk_far ?_ NB204_228.out _; (with_reducible repeat (first | refine kdN ?_ _ | refine kd1 ?_ | refine kal ?_ _)); refine blk_far ?_ NB204_228.out _; (with_reducible repeat (first | refine kdN ?_ _ | refine kd1 ?_ | refine kal ?_ _)); refine blk_far ?_ NB204_228.out _; (with_reducible repeat (first | refine kdN ?_ _ | refine kd1 ?_ | refine kal ?_ _)); refine blk_far ?_ NB204_228.out _; (with_reducible repeat (first | refine kdN ?_ _ | refine kd1 ?_ | refine kal ?_ _)); exact BK204.out) hb); have n1_ := Azz.mk (blk_below (g := gb228) (o := .cells #[.int .i64 (wrap64 (rd l0 2)), .int .i64 (wrap64 (rd l0 3)), .int .i64 (wrap64 (t211)), .string (strOfNums y224), .int .i64 (l0.length : Int)] 36 (0, 0)) (by (with_reducible repeat (first | refine kdN ?_ _ | refine kd1 ?_ | refine kal ?_ _)); refine blk_put (cs := #[.int .i64 (wrap64 (rd l0 2)), .int .i64 (wrap64 (rd l0 3)), .int .i64 (wrap64 (t211)), .string (strOfNums y224), .int .i64 0]) ?_ 4 _ rfl; (with_reducible repeat (first | refine kdN ?_ _ | refine kd1 ?_ | refine kal ?_ _)); refine blk_put (cs := #[.int .i64 (wrap64 (rd l0 2)), .int .i64 (wrap64 (rd l0 3)), .int .i64 (wrap64 (t211)), .string (⟨#[]⟩ : ByteArray), .int .i64 0]) ?_ 3 _ rfl; (with_reducible repeat (first | refine kdN ?_ _ | refine kd1 ?_ | refine kal ?_ _)); refine blk_put (cs := #[.int .i64 (wrap64 (rd l0 2)), .int .i64 (wrap64 (rd l0 3)), .int .i64 0, .string (⟨#[]⟩ : ByteArray), .int .i64 0]) ?_ 2 _ rfl; (with_reducible repeat (first | refine kdN ?_ _ | refine kd1 ?_ | refine kal ?_ _)); refine blk_put (cs := #[.int .i64 (wrap64 (rd l0 2)), .int .i64 0, .int .i64 0, .string (⟨#[]⟩ : ByteArray), .int .i64 0]) ?_ 1 _ rfl; (with_reducible repeat (first | refine kdN ?_ _ | refine kd1 ?_ | refine kal ?_ _)); refine blk_put (cs := #[.int .i64 0, .int .i64 0, .int .i64 0, .string (⟨#[]⟩ : ByteArray), .int .i64 0]) ?_ 0 _ rfl; (with_reducible repeat (first | refine kdN ?_ _ | refine kd1 ?_ | refine kal ?_ _)); exact BK228.out) hb); have n2_ := Azz.mk (below_step (by repeat (first | (with_reducible first | exact HB.out | apply bal | apply pbN | apply bd1 | refine bst ?_ GE204.out | refine bst ?_ GE228.out) | exact HB.out)) hb); clear BK204; clear BK228; clear HB; have BK204 := n0_; have BK228 := n1_; have HB := n2_; clear n0_ n1_ n2_; (try clear hb); (try clear hb2); (try clear hk); (try clear hi); have hcz62_0 : World.cell? _ ⟨gb204, 0, none⟩ = some (.int .i64 x205000_3) := (kcl BK204.out 0).trans rfl; have hcz62_1 : World.cell? _ ⟨gb204, 1, none⟩ = some (.int .i64 x205001_3) := (kcl BK204.out 1).trans rfl; have hcz62_2 : World.cell? _ ⟨gb204, 2, none⟩ = some (.int .i64 x205002_3) := (kcl BK204.out 2).trans rfl; have hcz62_3 : World.cell? _ ⟨gb204, 3, none⟩ = some (.string x205003_3) := (kcl BK204.out 3).trans rfl; have hcz62_4 : World.cell? _ ⟨gb204, 4, none⟩ = some (.int .i64 x205004_3) := (kcl BK204.out 4).trans rfl; have hfz62_0 := kfz BK204.out 0; have hfz62_1 := kfz BK204.out 1; have hfz62_2 := kfz BK204.out 2; have hfz62_3 := kfz BK204.out 3; have hfz62_4 := kfz BK204.out 4))
                     refine bodyPost_ret (results_ct rfl _ _ gb204 36 #[.int .i64 0, .int .i64 0, .int .i64 0, .string (⟨#[]⟩ : ByteArray), .int .i64 0] (0, 0) _ rfl (by (with_reducible repeat (first | refine kdN ?_ _ | refine kd1 ?_ | refine kal ?_ _)); refine blk_put (cs := #[.int .i64 0, .int .i64 0, .int .i64 0, .string (⟨#[]⟩ : ByteArray), .int .i64 x205004_3]) ?_ 4 _ rfl; (with_reducible repeat (first | refine kdN ?_ _ | refine kd1 ?_ | refine kal ?_ _)); refine blk_put (cs := #[.int .i64 0, .int .i64 0, .int .i64 0, .string x205003_3, .int .i64 x205004_3]) ?_ 3 _ rfl; (with_reducible repeat (first | refine kdN ?_ _ | refine kd1 ?_ | refine kal ?_ _)); refine blk_put (cs := #[.int .i64 0, .int .i64 0, .int .i64 x205002_3, .string x205003_3, .int .i64 x205004_3]) ?_ 2 _ rfl; (with_reducible repeat (first | refine kdN ?_ _ | refine kd1 ?_ | refine kal ?_ _)); refine blk_put (cs := #[.int .i64 0, .int .i64 x205001_3, .int .i64 x205002_3, .string x205003_3, .int .i64 x205004_3]) ?_ 1 _ rfl; (with_reducible repeat (first | refine kdN ?_ _ | refine kd1 ?_ | refine kal ?_ _)); refine blk_put (cs := #[.int .i64 x205000_3, .int .i64 x205001_3, .int .i64 x205002_3, .string x205003_3, .int .i64 x205004_3]) ?_ 0 _ rfl; (with_reducible repeat (first | refine kdN ?_ _ | refine kd1 ?_ | refine kal ?_ _)); exact BK204.out) Try.underlying36 rfl (by kernel_rfl)) rfl ?_
                     exact ⟨by first | rfl | (simp [errW_none, errW_some] <;> rfl) | (simp only [← hji22]; first | rfl | (simp [errW_none, errW_some] <;> rfl)) | (simp [*, errW_none, errW_some] <;> rfl), by repeat (first | (with_reducible first | exact HB.out | apply bal | apply pbN | apply bd1 | refine bst ?_ GE204.out | refine bst ?_ GE228.out) | exact HB.out)⟩
                   ·rw [if_neg c35] at H
                    exact absurd H (by simp)
                  ·rw [if_neg c34] at H
                   exact absurd H (by simp)
                 ·rw [if_neg c33] at H
                  exact absurd H (by simp)
                ·rw [if_neg c32] at H
                 exact absurd H (by simp)
            ·rw [if_neg c25] at H
             exact absurd H (by simp)
           ·rw [if_neg c24] at H
            exact absurd H (by simp)
          ·rw [if_neg c23] at H
           exact absurd H (by simp)
      ·rw [if_neg c13] at H
       exact absurd H (by simp)
     ·rw [if_neg c11] at H
      exact absurd H (by simp)
    ·replace c10 := Bool.eq_false_iff.mpr c10
     subst c10
     have H1 : (some (0, 0, 0, (⟨#[]⟩ : ByteArray), 0, 8)) = some (r1, r2, r3, r4, r5, r6) := by rw [if_neg (show ¬ (false = true) by decide)] at H; exact H
     clear H
     have H := H1
     clear H1
     simp only [Option.some.injEq, Prod.mk.injEq] at H
     obtain ⟨rfl, rfl, rfl, rfl, rfl, rfl⟩ := H
     go_wp2_with (first | ((with_reducible refine gate_callee (f := 30) rfl ?_); refine goesL_ (some 26) rfl rfl Try.func30 (by kernel_rfl) rfl #[.slice A0 l0.length c0] rfl (by (try simp only [List.map_toArray, List.map_cons, List.map_nil]); first | done | rfl | (simp only [List.length_drop, List.length_take]; rfl)) ?_; (with_reducible refine (frame_open.calls kj1 _ _ l0 false _ ?side1 ?side2 A9.out).mono ?_); (case side1 => repeat (first | exact (Kd.C_below HR0.out HB.out) | (with_reducible refine Kd.C_alloc ?_ _) | (with_reducible refine Kd.C_drewN ?_ _) | (with_reducible refine Kd.C_drew ?_))); (case side2 => exact HC0.out); rintro e w' ⟨rfl, ⟨nd, rfl⟩⟩; refine ⟨_, rfl, ?_⟩; (try (rw [drewN_self wc]; generalize hq_ : World.drewN wc _ = wc; have n0_ : Azz (wc.heap[gb204]? = some (.cells #[.int .i64 0, .int .i64 0, .int .i64 0, .string (⟨#[]⟩ : ByteArray), .int .i64 0] 36 (0, 0))) := ⟨by rw [← hq_]; exact (by (with_reducible repeat (first | refine kdN ?_ _ | refine kd1 ?_ | refine kal ?_ _)); exact BK204.out)⟩; have n1_ : Azz (Below w.heap.size w wc) := ⟨by rw [← hq_]; exact (by repeat (first | (with_reducible first | exact HB.out | apply bal | apply pbN | apply bd1 | refine bst ?_ GE204.out) | exact HB.out))⟩; clear BK204 HB hq_; have BK204 := n0_; have HB := n1_; clear n0_ n1_)); have hcz63_0 : World.cell? _ ⟨gb204, 0, none⟩ = some (.int .i64 0) := (kcl BK204.out 0).trans rfl; have hcz63_1 : World.cell? _ ⟨gb204, 1, none⟩ = some (.int .i64 0) := (kcl BK204.out 1).trans rfl; have hcz63_2 : World.cell? _ ⟨gb204, 2, none⟩ = some (.int .i64 0) := (kcl BK204.out 2).trans rfl; have hcz63_3 : World.cell? _ ⟨gb204, 3, none⟩ = some (.string (⟨#[]⟩ : ByteArray)) := (kcl BK204.out 3).trans rfl; have hcz63_4 : World.cell? _ ⟨gb204, 4, none⟩ = some (.int .i64 0) := (kcl BK204.out 4).trans rfl; have hfz63_0 := kfz BK204.out 0; have hfz63_1 := kfz BK204.out 1; have hfz63_2 := kfz BK204.out 2; have hfz63_3 := kfz BK204.out 3; have hfz63_4 := kfz BK204.out 4))
     refine bodyPost_ret (results_ct rfl _ _ gb204 36 #[.int .i64 0, .int .i64 0, .int .i64 0, .string (⟨#[]⟩ : ByteArray), .int .i64 0] (0, 0) _ rfl (by (with_reducible repeat (first | refine kdN ?_ _ | refine kd1 ?_ | refine kal ?_ _)); refine blk_put (cs := #[.int .i64 0, .int .i64 0, .int .i64 0, .string (⟨#[]⟩ : ByteArray), .int .i64 0]) ?_ 4 _ rfl; (with_reducible repeat (first | refine kdN ?_ _ | refine kd1 ?_ | refine kal ?_ _)); refine blk_put (cs := #[.int .i64 0, .int .i64 0, .int .i64 0, .string (⟨#[]⟩ : ByteArray), .int .i64 0]) ?_ 3 _ rfl; (with_reducible repeat (first | refine kdN ?_ _ | refine kd1 ?_ | refine kal ?_ _)); refine blk_put (cs := #[.int .i64 0, .int .i64 0, .int .i64 0, .string (⟨#[]⟩ : ByteArray), .int .i64 0]) ?_ 2 _ rfl; (with_reducible repeat (first | refine kdN ?_ _ | refine kd1 ?_ | refine kal ?_ _)); refine blk_put (cs := #[.int .i64 0, .int .i64 0, .int .i64 0, .string (⟨#[]⟩ : ByteArray), .int .i64 0]) ?_ 1 _ rfl; (with_reducible repeat (first | refine kdN ?_ _ | refine kd1 ?_ | refine kal ?_ _)); refine blk_put (cs := #[.int .i64 0, .int .i64 0, .int .i64 0, .string (⟨#[]⟩ : ByteArray), .int .i64 0]) ?_ 0 _ rfl; (with_reducible repeat (first | refine kdN ?_ _ | refine kd1 ?_ | refine kal ?_ _)); exact BK204.out) Try.underlying36 rfl (by kernel_rfl)) rfl ?_
     exact ⟨by first | rfl | (simp [errW_none, errW_some] <;> rfl) | (simp [*, errW_none, errW_some] <;> rfl), by repeat (first | (with_reducible first | exact HB.out | apply bal | apply pbN | apply bd1 | refine bst ?_ GE204.out) | exact HB.out)⟩

end Go.Proofs.Ytgeheedfmdlefaa.PF
end

section
namespace Go.Proofs.Ytgeheedfmdlefaa.PF
open Go.RowKit Go.Proofs.YtgeheedfmdlefaaW.PrintWords Go.Proofs.YtgeheedfmdlefaaW.PrintLast Go.Proofs.YtgeheedfmdlefaaW.PrintMore Go.Proofs.Ytgeheedfmdlefaa.Conv
attribute [local go_sem] max2_int min2_int max_two min_two max_three min_three max_four min_four   -- for this text's walks alone
set_option linter.unusedVariables false
set_option linter.unusedSimpArgs false

/-! ### frame_put: function 28 -/
def frame_put.l0 : Nat → List Int → Int → Int → Option (List Int)
 | 0, _, _, _ => none
 | k + 1, x0, x1, x7 => if x7 ≥ 0 then (if 0 ≤ (IntKind.u64.wrap (wrap64 (8 * x7))) then (if x0.length < 140737488355328 then (frame_put.l0 k (x0 ++ [(shr .u64 x1 (IntKind.u64.wrap (wrap64 (8 * x7)))) % 256]) x1 (wrap64 (x7 - 1))) else (none)) else (none)) else (some x0)
def frame_put.f (k : Nat) (l0 : List Int) (a1 : Int) (a2 : Int) : Option (List Int) := frame_put.l0 k l0 a1 (wrap64 (a2 - 1))
theorem frame_put.mono_l : ∀ k, (∀ y0 y1 y2, LeO (frame_put.l0 k y0 y1 y2) (frame_put.l0 (k + 1) y0 y1 y2))
 | 0 => fun _ _ _ r h => by simp [frame_put.l0] at h
 | k + 1 => by
  have ih0 := frame_put.mono_l k
  ·intro y0 y1 y2
   unfold frame_put.l0
   repeat' first
   | (with_reducible exact ih0 _ _ _)
   | (with_reducible exact LeO.refl _)
   | (with_reducible exact LeO.none _)
   | (with_reducible refine LeO.ite ?_ ?_)
   | (with_reducible refine LeO.bind ?_ (fun _ => ?_))
   | exact ih0 _ _ _
   | exact LeO.none _
   | refine LeO.ite ?_ ?_
   | refine LeO.bind ?_ (fun _ => ?_)
theorem frame_put.mono : ∀ a0 a1 a2 k, LeO (frame_put.f k a0 a1 a2) (frame_put.f (k + 1) a0 a1 a2) := by
 intro a0 a1 a2 k
 have ih0 := frame_put.mono_l k
 unfold frame_put.f
 repeat' first
   | (with_reducible exact ih0 _ _ _)
   | (with_reducible exact LeO.refl _)
   | (with_reducible exact LeO.none _)
   | (with_reducible refine LeO.ite ?_ ?_)
   | (with_reducible refine LeO.bind ?_ (fun _ => ?_))
   | exact ih0 _ _ _
   | exact LeO.none _
   | refine LeO.ite ?_ ?_
   | refine LeO.bind ?_ (fun _ => ?_)
set_option maxHeartbeats 8000000 in
set_option maxRecDepth 100000 in
theorem frame_put.calls (k : Nat) (P0_ : Nat → Prop) (u9000_ : Value) (l0 : List Int) (a1 : Int) (a2 : Int) (r : List Int) (w0 w : World) (hB : Below w0.heap.size w0 w) (ho0 : Kd.R (Kd.int .u8) 5 w w0.heap.size P0_ u9000_ l0) (h : frame_put.f k l0 a1 a2 = some r) :
  Calls Try.prog 28 #[u9000_, .int .u64 a1, .int .i64 a2] w fun e w' => ∃ v0_ : Value, e = .returned (v0_) ∧ Kd.R (Kd.int .u8) 5 w' w0.heap.size (fun k_ => (P0_ k_ ∨ w.heap.size ≤ k_)) v0_ r ∧ Below w0.heap.size w0 w' ∧ Kept w w' (fun k_ => P0_ k_) := by
 have HO0 := Azz.mk (show Kd.R (Kd.int .u8) 5 w w0.heap.size (fun k_ => (P0_ k_ ∨ w.heap.size ≤ k_)) u9000_ l0 from Kd.R_mono ho0 (fun k_ hk => (.inl hk)))
 have HK := Azz.mk (Kept.refl w (fun k_ => P0_ k_))
 have HW0 := Azz.mk hB.size
 have HB := Azz.mk hB
 clear hB
 have H : (frame_put.l0 k l0 a1 (wrap64 (a2 - 1))) = some r := h
 clear h
 have H' := Azz.mk H
 clear H
 go_enter Try.func28, Try.ntmps28
 go_wp2
 go_loopg [0, 7] k (fun kq v0 v7 w' => ∃ (x0_1 : List Int) (x7_1 : Int), v7 = .int .i64 x7_1 ∧ Azz (frame_put.l0 kq x0_1 a1 x7_1 = some r) ∧ Azz (kq ≤ k) ∧ Azz (Kd.R (Kd.int .u8) 5 w' w0.heap.size (fun k_ => (P0_ k_ ∨ w.heap.size ≤ k_)) v0 x0_1) ∧ Azz (Kept w w' (fun k_ => P0_ k_)) ∧ Azz (Below w0.heap.size w0 w'))
 case atStart => exact ⟨(l0), (wrap64 (a2 - 1)), (by first | rfl | (simp; done) | (simp [*]; done)), H', ⟨Nat.le_refl _⟩, ⟨by (with_reducible repeat (first | apply Kd.R_alloc | apply Kd.R_drewN | apply Kd.R_drew)); exact HO0.out⟩, ⟨by repeat (first | (with_reducible first | exact HK.out | apply Kept.alloc | apply Kept.drewN | apply Kept.drew) | exact HK.out)⟩, ⟨by repeat (first | (with_reducible first | exact HB.out | apply bal | apply pbN | apply bd1) | exact HB.out)⟩⟩
 case round =>
  clear H'
  try clear c2
  try clear p2
  obtain ⟨x0_1, x7_1, rfl, HA, HK1, HO_0, HK, HB⟩ := hrel
  cases gk with
  | zero => exact absurd HA.out (by simp [frame_put.l0])
  | succ k1 =>
   have H := HA.out
   clear HA
   simp only [frame_put.l0] at H
   by_cases c4 : x7_1 ≥ 0
   ·rw [if_pos c4] at H
    have c4b0 : decide (0 ≤ x7_1) = true := decide_eq_true c4
    clear c4
    obtain ⟨ji5, hji5⟩ : ∃ j_ : Int, (IntKind.u64.wrap (wrap64 (8 * x7_1))) = j_ := ⟨_, rfl⟩
    replace H : (if 0 ≤ (ji5) then (if x0_1.length < 140737488355328 then (frame_put.l0 k1 (x0_1 ++ [(shr .u64 a1 (ji5)) % 256]) a1 (wrap64 (x7_1 - 1))) else (none)) else (none)) = some r := by first | (rw [hji5] at H; exact H) | (simp only [hji5] at H ⊢; exact H)
    by_cases c6 : 0 ≤ (ji5)
    ·rw [if_pos c6] at H
     have c6b0 := eq_true c6
     have c6b1 : decide (0 ≤ (ji5)) = true := decide_eq_true c6
     clear c6
     obtain ⟨ji7, hji7⟩ : ∃ j_ : Int, (shr .u64 a1 (ji5)) = j_ := ⟨_, rfl⟩
     replace H : (if x0_1.length < 140737488355328 then (frame_put.l0 k1 (x0_1 ++ [(ji7) % 256]) a1 (wrap64 (x7_1 - 1))) else (none)) = some r := by first | (rw [hji7] at H; exact H) | (simp only [hji7] at H ⊢; exact H)
     have hji7_ : (a1 / 2 ^ min (ji5).toNat 64) = ji7 := hji7
     have hji7z : (ji5) ≤ 64 → (a1 / 2 ^ (ji5).toNat) = ji7 := shr_small hji7
     by_cases c8 : x0_1.length < 140737488355328
     ·rw [if_pos c8] at H
      have LMc8 := Azz.mk c8
      clear c8
      obtain ⟨y108, hy108⟩ : ∃ y_ : List Int, y_ = (x0_1 ++ [(ji7) % 256]) := ⟨_, rfl⟩
      replace H : (frame_put.l0 k1 y108 a1 (wrap64 (x7_1 - 1))) = some r := by first | (rw [hy108]; with_reducible exact H) | (have H2_ := (Option.bind_some _ _).symm.trans H; rw [hy108]; with_reducible exact H2_) | (have H2_ := (Option.bind_some _ _).symm.trans H; with_reducible exact H2_) | with_reducible exact H | (rw [hy108]; exact H) | exact H
      have Ny108 := Azz.mk hy108
      clear hy108
      have H' := Azz.mk H
      clear H
      go_wp2_with (first | ((with_reducible refine gate_builtin (b := .append) (xs := #[.tmp 14, .tmp 21]) rfl ?_); at_builtin; refine Kd.R_append (Kd.int .u8) (w0 := w0) w0.heap.size rfl (.tmp 14) (.tmp 21) 26 5 (.int .u8 0) 1 rfl Try.underlying26 info5 rfl (by decide) (by omega) u0 x0_1 ((ji7) % 256) [.int .u8 ((ji7) % 256)] (fun k_ => (P0_ k_ ∨ w.heap.size ≤ k_)) (fun _ => False) rfl rfl ?aP (fun _ hk => hk.elim) ?aF ?aO ?aB ?aS ?aL ?_; (case aP => exact rfl); (case aB => exact (by repeat (first | (with_reducible first | exact HB.out | apply bal | apply pbN | apply bd1) | exact HB.out))); (case aF => exact (fun k_ hk => (.inr (Nat.le_trans (by first | exact HK.out.1 | exact (show Kept w _ (fun k_ => P0_ k_) from by repeat (first | (with_reducible first | exact HK.out | apply Kept.alloc | apply Kept.drewN | apply Kept.drew) | exact HK.out)).1) hk)))); (case aO => exact (by (with_reducible repeat (first | apply Kd.R_alloc | apply Kd.R_drewN | apply Kd.R_drew)); exact HO_0.out)); (case aS => exact (below_size (by repeat (first | (with_reducible first | exact HB.out | apply bal | apply pbN | apply bd1) | exact HB.out)))); (case aL => have := LMc8.out; omega); intro v109 w9 ho hb hg hat; rw [← Ny108.out] at ho; have n0_ := Azz.mk (hb); have n1_ := Azz.mk (Kept.of_grown (S := (fun k_ => P0_ k_)) hg (by repeat (first | (with_reducible first | exact HK.out | apply Kept.alloc | apply Kept.drewN | apply Kept.drew) | exact HK.out)) (fun k_ e_ => (HO_0.out.1 k_ e_))); have n2_ := Azz.mk (ho); clear HB; clear HK; clear HO_0; have HB := n0_; have HK := n1_; have HO110 := n2_; clear n0_ n1_ n2_; clear ho hb hg hat))
      go_roundg k1
      case measure => have := HK1.out; omega
      case rel => exact ⟨(y108), (wrap64 (x7_1 - 1)), (by first | rfl | (simp; done) | (simp [*]; done)), H', ⟨by have := HK1.out; omega⟩, ⟨by (with_reducible repeat (first | apply Kd.R_alloc | apply Kd.R_drewN | apply Kd.R_drew)); exact HO110.out⟩, ⟨by repeat (first | (with_reducible first | exact HK.out | apply Kept.alloc | apply Kept.drewN | apply Kept.drew) | exact HK.out)⟩, ⟨by repeat (first | (with_reducible first | exact HB.out | apply bal | apply pbN | apply bd1) | exact HB.out)⟩⟩
     ·rw [if_neg c8] at H
      exact absurd H (by simp)
    ·rw [if_neg c6] at H
     exact absurd H (by simp)
   ·rw [if_neg c4] at H
    have c4b0 : decide (0 ≤ x7_1) = false := decide_eq_false c4
    clear c4
    obtain rfl := Option.some.inj H
    go_wp2
    go_ret
    exact ⟨_, by first | rfl | (simp [errW_none, errW_some] <;> rfl) | (simp [*, errW_none, errW_some] <;> rfl), by (with_reducible repeat (first | apply Kd.R_alloc | apply Kd.R_drewN | apply Kd.R_drew)); exact HO_0.out, by repeat (first | (with_reducible first | exact HB.out | apply bal | apply pbN | apply bd1) | exact HB.out), by repeat (first | (with_reducible first | exact HK.out | apply Kept.alloc | apply Kept.drewN | apply Kept.drew) | exact HK.out)⟩

end Go.Proofs.Ytgeheedfmdlefaa.PF
end

section
namespace Go.Proofs.Ytgeheedfmdlefaa.PF
open Go.RowKit Go.Proofs.YtgeheedfmdlefaaW.PrintWords Go.Proofs.YtgeheedfmdlefaaW.PrintLast Go.Proofs.YtgeheedfmdlefaaW.PrintMore Go.Proofs.Ytgeheedfmdlefaa.Conv
attribute [local go_sem] max2_int min2_int max_two min_two max_three min_three max_four min_four   -- for this text's walks alone
set_option linter.unusedVariables false
set_option linter.unusedSimpArgs false

/-! ### frame_sealed: function 29 -/
def frame_sealed.f (k : Nat) (l0 : List Int) : Option (List Int) := (frame_Sum.f k l0).bind fun t112 => ((frame_put.f k l0 (IntKind.u64.wrap (t112)) 4).bind fun t113 => (some t113))
theorem frame_sealed.mono : ∀ a0 k, LeO (frame_sealed.f k a0) (frame_sealed.f (k + 1) a0) := by
 intro a0 k
 unfold frame_sealed.f
 repeat' first
   | (with_reducible exact frame_Sum.mono _ _)
   | (with_reducible exact frame_put.mono _ _ _ _)
   | (with_reducible exact LeO.refl _)
   | (with_reducible exact LeO.none _)
   | (with_reducible refine LeO.ite ?_ ?_)
   | (with_reducible refine LeO.bind ?_ (fun _ => ?_))
   | exact frame_Sum.mono _ _
   | exact frame_put.mono _ _ _ _
   | exact LeO.none _
   | refine LeO.ite ?_ ?_
   | refine LeO.bind ?_ (fun _ => ?_)
set_option maxHeartbeats 8000000 in
set_option maxRecDepth 100000 in
theorem frame_sealed.calls (k : Nat) (P0_ : Nat → Prop) (u9000_ : Value) (l0 : List Int) (r : List Int) (w0 w : World) (hB : Below w0.heap.size w0 w) (ho0 : Kd.R (Kd.int .u8) 5 w w0.heap.size P0_ u9000_ l0) (h : frame_sealed.f k l0 = some r) :
  Calls Try.prog 29 #[u9000_] w fun e w' => ∃ v0_ : Value, e = .returned (v0_) ∧ Kd.R (Kd.int .u8) 5 w' w0.heap.size (fun k_ => (P0_ k_ ∨ w.heap.size ≤ k_)) v0_ r ∧ Below w0.heap.size w0 w' ∧ Kept w w' (fun k_ => P0_ k_) := by
 have HO0 := Azz.mk (show Kd.R (Kd.int .u8) 5 w w0.heap.size (fun k_ => (P0_ k_ ∨ w.heap.size ≤ k_)) u9000_ l0 from Kd.R_mono ho0 (fun k_ hk => (.inl hk)))
 have HK := Azz.mk (Kept.refl w (fun k_ => P0_ k_))
 have HW0 := Azz.mk hB.size
 have HB := Azz.mk hB
 clear hB
 have H : ((frame_Sum.f k l0).bind fun t112 => ((frame_put.f k l0 (IntKind.u64.wrap (t112)) 4).bind fun t113 => (some t113))) = some r := h
 clear h
 replace H := Option.bind_eq_some_iff.mp H
 obtain ⟨t112, A20, H⟩ := H
 replace H : ((frame_put.f k l0 (IntKind.u64.wrap (t112)) 4).bind fun t113 => (some t113)) = some r := H
 have A2 := Azz.mk A20
 clear A20
 replace H := Option.bind_eq_some_iff.mp H
 obtain ⟨t113, A30, H⟩ := H
 replace H : (some t113) = some r := H
 have A3 := Azz.mk A30
 clear A30
 obtain rfl := Option.some.inj H
 obtain ⟨Ao4, co4, eo4⟩ := Kd.R_slice HO0.out
 subst eo4
 go_enter Try.func29, Try.ntmps29
 go_wp2_with (first | ((with_reducible refine gate_callee (f := 23) rfl ?_); refine goesL_ (some 5) rfl rfl Try.func23 (by kernel_rfl) rfl #[.slice Ao4 l0.length co4] rfl (by (try simp only [List.map_toArray, List.map_cons, List.map_nil]); first | done | rfl | (simp only [List.length_drop, List.length_take]; rfl)) ?_; (with_reducible refine (frame_Sum.calls k _ _ l0 t112 _ ?side1 ?side2 A2.out).mono ?_); (case side1 => repeat (first | exact (Kd.R_reads' HO0.out).2.2 | (with_reducible refine Kd.C_alloc ?_ _) | (with_reducible refine Kd.C_drewN ?_ _) | (with_reducible refine Kd.C_drew ?_))); (case side2 => exact (Kd.R_reads' HO0.out).2.1); rintro e w' ⟨rfl, ⟨nd, rfl⟩⟩; refine ⟨_, rfl, ?_⟩) | ((with_reducible refine gate_callee (f := 28) rfl ?_); refine goesL_ (some 7) rfl rfl Try.func28 (by kernel_rfl) rfl #[.slice Ao4 l0.length co4, .int .u64 (IntKind.u64.wrap (t112)), .int .i64 4] rfl (by (try simp only [List.map_toArray, List.map_cons, List.map_nil]); first | done | rfl | (simp only [List.length_drop, List.length_take]; rfl)) ?_; (with_reducible refine (frame_put.calls k (fun k_ => some k_ = (.slice Ao4 l0.length co4 : Value).ownBlock) (.slice Ao4 l0.length co4) l0 (IntKind.u64.wrap (t112)) 4 t113 w0 _ ?side1 ?side2 A3.out).mono ?_); (case side1 => repeat (first | (with_reducible first | exact HB.out | apply bal | apply pbN | apply bd1) | exact HB.out)); (case side2 => exact Kd.R_tight rfl HO0.out); rintro e w5 ⟨v114, rfl, ho0, hb, hkp⟩; refine ⟨_, rfl, ?_⟩; have n0_ := Azz.mk (Kd.R_mono (ok' := fun k_ => (P0_ k_ ∨ w.heap.size ≤ k_)) ho0 (fun k_ hk_ => Or.elim hk_ (fun hs_ => (HO0.out.1 k_ (hs_).symm)) (fun hn_ => (.inr (Nat.le_trans (by first | exact HK.out.1 | exact (show Kept w _ (fun k_ => P0_ k_) from by repeat (first | (with_reducible first | exact HK.out | apply Kept.alloc | apply Kept.drewN | apply Kept.drew) | exact HK.out)).1) hn_))))); have n1_ := Azz.mk (Kept.then_ (S := (fun k_ => P0_ k_)) (by repeat (first | (with_reducible first | exact HK.out | apply Kept.alloc | apply Kept.drewN | apply Kept.drew) | exact HK.out)) hkp (fun k_ hs_ => (fun e_ => (HO0.out.1 k_ e_.symm)) hs_)); have n2_ := Azz.mk (hb); clear HK; clear HB; clear HO0; have HO115 := n0_; have HK := n1_; have HB := n2_; clear n0_ n1_ n2_; (try clear hb); (try clear hkp); (try clear ho0)))
 go_ret
 exact ⟨_, by first | rfl | (simp [errW_none, errW_some] <;> rfl) | (simp [*, errW_none, errW_some] <;> rfl), by (with_reducible repeat (first | apply Kd.R_alloc | apply Kd.R_drewN | apply Kd.R_drew)); exact HO115.out, by repeat (first | (with_reducible first | exact HB.out | apply bal | apply pbN | apply bd1) | exact HB.out), by repeat (first | (with_reducible first | exact HK.out | apply Kept.alloc | apply Kept.drewN | apply Kept.drew) | exact HK.out)⟩

/-! ### frame_Control: function 12 -/
def frame_Control.f (k : Nat) (a0_0 : Int) (a0_1 : Int) (a0_2 : Int) (a0_3 : Int) (a0_4 : Int) : Option (List Int × Int) := (frame_rightControl.f a0_0 a0_1 a0_2 a0_3 a0_4).bind fun t117 => (if t117 = true then ((frame_put.f k (([137, 29, (a0_0) % 256, (a0_1) % 256] : List Int)) (IntKind.u64.wrap (a0_2)) 8).bind fun t121 => ((frame_put.f k t121 (IntKind.u64.wrap (a0_3)) 4).bind fun t124 => ((frame_put.f k t124 (IntKind.u64.wrap (a0_4)) 8).bind fun t127 => ((frame_put.f k t127 0 6).bind fun t130 => ((frame_sealed.f k t130).bind fun t133 => (some (t133, 0))))))) else (some (([] : List Int), 1)))
theorem frame_Control.mono : ∀ a0 a1 a2 a3 a4 k, LeO (frame_Control.f k a0 a1 a2 a3 a4) (frame_Control.f (k + 1) a0 a1 a2 a3 a4) := by
 intro a0 a1 a2 a3 a4 k
 unfold frame_Control.f
 repeat' first
   | (with_reducible exact frame_put.mono _ _ _ _)
   | (with_reducible exact frame_sealed.mono _ _)
   | (with_reducible exact LeO.refl _)
   | (with_reducible exact LeO.none _)
   | (with_reducible refine LeO.ite ?_ ?_)
   | (with_reducible refine LeO.bind ?_ (fun _ => ?_))
   | exact frame_put.mono _ _ _ _
   | exact frame_sealed.mono _ _
   | exact LeO.none _
   | refine LeO.ite ?_ ?_
   | refine LeO.bind ?_ (fun _ => ?_)
set_option maxHeartbeats 8000000 in
set_option maxRecDepth 100000 in
theorem frame_Control.calls (k : Nat) (a0_0 : Int) (a0_1 : Int) (a0_2 : Int) (a0_3 : Int) (a0_4 : Int) (r1 : List Int) (r2 : Int) (w : World) (h : frame_Control.f k a0_0 a0_1 a0_2 a0_3 a0_4 = some (r1, r2)) :
  Calls Try.prog 12 #[.agg #[.int .i64 a0_0, .int .i64 a0_1, .int .i64 a0_2, .int .u32 a0_3, .int .i64 a0_4]] w fun e w' => ∃ v0_ : Value, e = .returned (.tuple #[v0_, .int .i64 r2]) ∧ Kd.R (Kd.int .u8) 5 w' w.heap.size (fun _ => True) v0_ r1 ∧ Below w.heap.size w w' := by
 have hu24 := Try.underlying24
 have HB := Azz.mk (Below.refl w.heap.size w)
 have H : ((frame_rightControl.f a0_0 a0_1 a0_2 a0_3 a0_4).bind fun t117 => (if t117 = true then ((frame_put.f k (([137, 29, (a0_0) % 256, (a0_1) % 256] : List Int)) (IntKind.u64.wrap (a0_2)) 8).bind fun t121 => ((frame_put.f k t121 (IntKind.u64.wrap (a0_3)) 4).bind fun t124 => ((frame_put.f k t124 (IntKind.u64.wrap (a0_4)) 8).bind fun t127 => ((frame_put.f k t127 0 6).bind fun t130 => ((frame_sealed.f k t130).bind fun t133 => (some (t133, 0))))))) else (some (([] : List Int), 1)))) = some (r1, r2) := h
 clear h
 replace H := Option.bind_eq_some_iff.mp H
 obtain ⟨t117, A20, H⟩ := H
 replace H : (if t117 = true then ((frame_put.f k (([137, 29, (a0_0) % 256, (a0_1) % 256] : List Int)) (IntKind.u64.wrap (a0_2)) 8).bind fun t121 => ((frame_put.f k t121 (IntKind.u64.wrap (a0_3)) 4).bind fun t124 => ((frame_put.f k t124 (IntKind.u64.wrap (a0_4)) 8).bind fun t127 => ((frame_put.f k t127 0 6).bind fun t130 => ((frame_sealed.f k t130).bind fun t133 => (some (t133, 0))))))) else (some (([] : List Int), 1))) = some (r1, r2) := H
 have A2 := Azz.mk A20
 clear A20
 by_cases c3 : t117 = true
 ·subst c3
  have H1 : ((frame_put.f k (([137, 29, (a0_0) % 256, (a0_1) % 256] : List Int)) (IntKind.u64.wrap (a0_2)) 8).bind fun t121 => ((frame_put.f k t121 (IntKind.u64.wrap (a0_3)) 4).bind fun t124 => ((frame_put.f k t124 (IntKind.u64.wrap (a0_4)) 8).bind fun t127 => ((frame_put.f k t127 0 6).bind fun t130 => ((frame_sealed.f k t130).bind fun t133 => (some (t133, 0))))))) = some (r1, r2) := by rw [if_pos rfl] at H; exact H
  clear H
  have H := H1
  clear H1
  obtain ⟨y118, hy118⟩ : ∃ y_ : List Int, y_ = (([137, 29, (a0_0) % 256, (a0_1) % 256] : List Int)) := ⟨_, rfl⟩
  replace H : ((frame_put.f k y118 (IntKind.u64.wrap (a0_2)) 8).bind fun t121 => ((frame_put.f k t121 (IntKind.u64.wrap (a0_3)) 4).bind fun t124 => ((frame_put.f k t124 (IntKind.u64.wrap (a0_4)) 8).bind fun t127 => ((frame_put.f k t127 0 6).bind fun t130 => ((frame_sealed.f k t130).bind fun t133 => (some (t133, 0))))))) = some (r1, r2) := by first | (rw [hy118]; with_reducible exact H) | (have H2_ := (Option.bind_some _ _).symm.trans H; rw [hy118]; with_reducible exact H2_) | (have H2_ := (Option.bind_some _ _).symm.trans H; with_reducible exact H2_) | with_reducible exact H | (rw [hy118]; exact H) | exact H
  have Ny118 := Azz.mk hy118
  clear hy118
  replace H := Option.bind_eq_some_iff.mp H
  obtain ⟨t121, A40, H⟩ := H
  replace H : ((frame_put.f k t121 (IntKind.u64.wrap (a0_3)) 4).bind fun t124 => ((frame_put.f k t124 (IntKind.u64.wrap (a0_4)) 8).bind fun t127 => ((frame_put.f k t127 0 6).bind fun t130 => ((frame_sealed.f k t130).bind fun t133 => (some (t133, 0)))))) = some (r1, r2) := H
  have A4 := Azz.mk A40
  clear A40
  replace H := Option.bind_eq_some_iff.mp H
  obtain ⟨t124, A50, H⟩ := H
  replace H : ((frame_put.f k t124 (IntKind.u64.wrap (a0_4)) 8).bind fun t127 => ((frame_put.f k t127 0 6).bind fun t130 => ((frame_sealed.f k t130).bind fun t133 => (some (t133, 0))))) = some (r1, r2) := H
  have A5 := Azz.mk A50
  clear A50
  replace H := Option.bind_eq_some_iff.mp H
  obtain ⟨t127, A60, H⟩ := H
  replace H : ((frame_put.f k t127 0 6).bind fun t130 => ((frame_sealed.f k t130).bind fun t133 => (some (t133, 0)))) = some (r1, r2) := H
  have A6 := Azz.mk A60
  clear A60
  replace H := Option.bind_eq_some_iff.mp H
  obtain ⟨t130, A70, H⟩ := H
  replace H : ((frame_sealed.f k t130).bind fun t133 => (some (t133, 0))) = some (r1, r2) := H
  have A7 := Azz.mk A70
  clear A70
  replace H := Option.bind_eq_some_iff.mp H
  obtain ⟨t133, A80, H⟩ := H
  replace H : (some (t133, 0)) = some (r1, r2) := H
  have A8 := Azz.mk A80
  clear A80
  simp only [Option.some.injEq, Prod.mk.injEq] at H
  obtain ⟨rfl, rfl⟩ := H
  go_enter Try.func12, Try.ntmps12
  go_wp2_with (first | ((with_reducible refine gate_dst (N := 1) rfl ?_); refine box_event ?hg (N := 1) ?hd (cs := #[.int .i64 a0_0, .int .i64 a0_1, .int .i64 a0_2, .int .u32 a0_3, .int .i64 a0_4]) (t := 24) ?hr ?_; (case hd => rfl); (case hg => rfl); (case hr => first | (go_simp; done) | (go_simp; rfl)); intro gb116 hg w9 hbox hb; have n0_ := Azz.mk (below_step (by repeat (first | (with_reducible first | exact HB.out | apply bal | apply pbN | apply bd1) | exact HB.out)) hb); have n1_ := Azz.mk (hbox); have n2_ := Azz.mk ((by rw [hg]; exact (below_size (by repeat (first | (with_reducible first | exact HB.out | apply bal | apply pbN | apply bd1) | exact HB.out))) : w.heap.size ≤ gb116)); have n3_ := Azz.mk ((by rw [hg]; exact (below_size (by repeat (first | (with_reducible first | exact HB.out | apply bal | apply pbN | apply bd1) | exact HB.out))) : w.heap.size ≤ gb116)); clear HB; have HB := n0_; have BK116 := n1_; have GW116 := n2_; have GE116 := n3_; clear n0_ n1_ n2_ n3_; clear hb hbox hg; have hcz10_0 : World.cell? _ ⟨gb116, 0, none⟩ = some (.int .i64 a0_0) := (kcl BK116.out 0).trans rfl; have hcz10_1 : World.cell? _ ⟨gb116, 1, none⟩ = some (.int .i64 a0_1) := (kcl BK116.out 1).trans rfl; have hcz10_2 : World.cell? _ ⟨gb116, 2, none⟩ = some (.int .i64 a0_2) := (kcl BK116.out 2).trans rfl; have hcz10_3 : World.cell? _ ⟨gb116, 3, none⟩ = some (.int .u32 a0_3) := (kcl BK116.out 3).trans rfl; have hcz10_4 : World.cell? _ ⟨gb116, 4, none⟩ = some (.int .i64 a0_4) := (kcl BK116.out 4).trans rfl; have hfz10_0 := kfz BK116.out 0; have hfz10_1 := kfz BK116.out 1; have hfz10_2 := kfz BK116.out 2; have hfz10_3 := kfz BK116.out 3; have hfz10_4 := kfz BK116.out 4) | ((with_reducible refine gate_callee (f := 27) rfl ?_); refine goesL_ (some 6) rfl rfl Try.func27 (by kernel_rfl) rfl #[.agg #[.int .i64 a0_0, .int .i64 a0_1, .int .i64 a0_2, .int .u32 a0_3, .int .i64 a0_4]] rfl (by (try simp only [List.map_toArray, List.map_cons, List.map_nil]); first | done | rfl | (simp only [List.length_drop, List.length_take]; rfl)) ?_; (with_reducible refine (frame_rightControl.calls a0_0 a0_1 a0_2 a0_3 a0_4 true _ A2.out).mono ?_); rintro e w11 ⟨rfl, hb⟩; refine ⟨_, rfl, ?_⟩; have n0_ := Azz.mk (blk_below (g := gb116) (o := .cells #[.int .i64 a0_0, .int .i64 a0_1, .int .i64 a0_2, .int .u32 a0_3, .int .i64 a0_4] 24 (0, 0)) (by (with_reducible repeat (first | refine kdN ?_ _ | refine kd1 ?_ | refine kal ?_ _)); exact BK116.out) hb); have n1_ := Azz.mk (below_step (by repeat (first | (with_reducible first | exact HB.out | apply bal | apply pbN | apply bd1 | refine bst ?_ GE116.out) | exact HB.out)) hb); clear BK116; clear HB; have BK116 := n0_; have HB := n1_; clear n0_ n1_; (try clear hb); (try clear hb2); (try clear hk); (try clear hi); have hcz12_0 : World.cell? _ ⟨gb116, 0, none⟩ = some (.int .i64 a0_0) := (kcl BK116.out 0).trans rfl; have hcz12_1 : World.cell? _ ⟨gb116, 1, none⟩ = some (.int .i64 a0_1) := (kcl BK116.out 1).trans rfl; have hcz12_2 : World.cell? _ ⟨gb116, 2, none⟩ = some (.int .i64 a0_2) := (kcl BK116.out 2).trans rfl; have hcz12_3 : World.cell? _ ⟨gb116, 3, none⟩ = some (.int .u32 a0_3) := (kcl BK116.out 3).trans rfl; have hcz12_4 : World.cell? _ ⟨gb116, 4, none⟩ = some (.int .i64 a0_4) := (kcl BK116.out 4).trans rfl; have hfz12_0 := kfz BK116.out 0; have hfz12_1 := kfz BK116.out 1; have hfz12_2 := kfz BK116.out 2; have hfz12_3 := kfz BK116.out 3; have hfz12_4 := kfz BK116.out 4) | ((with_reducible refine gate_dst (N := 14) rfl ?_); refine Kd.R_lit (Kd.int .u8) _ 5 ?hg (N := 14) ?hd (xs := ([137, 29, (a0_0) % 256, (a0_1) % 256] : List Int)) (inner := [.int .u8 137, .int .u8 29, .int .u8 ((a0_0) % 256), .int .u8 ((a0_1) % 256)]) (ok := fun _ => True) (okp := fun _ => True) ?hr ?hp (fun _ hk => hk) trivial (Below.refl _ _) (Nat.le_refl _) (by simp) ?_; (case hd => rfl); (case hg => rfl); (case hr => first | (go_simp; done) | (go_simp; rfl)); (case hp => exact (Reps.one (show Kd.M (Kd.int .u8) _ _ _ 137 [.int .u8 137] from rfl) (Reps.one (show Kd.M (Kd.int .u8) _ _ _ 29 [.int .u8 29] from rfl) (Reps.one (show Kd.M (Kd.int .u8) _ _ _ ((a0_0) % 256) [.int .u8 ((a0_0) % 256)] from rfl) (Reps.one (show Kd.M (Kd.int .u8) _ _ _ ((a0_1) % 256) [.int .u8 ((a0_1) % 256)] from rfl) (Reps.none _ _)))))); intro v119 w13 ho14 hb hg_ hnew_; clear hg_ hnew_; (first | rw [← Ny118.out] at ho14 | (simp only [Int.reduceToNat] at ho14; rw [← Ny118.out] at ho14)); have n0_ := Azz.mk (Kd.R_lower ho14 (below_size (by repeat (first | (with_reducible first | exact HB.out | apply bal | apply pbN | apply bd1 | refine bst ?_ GE116.out) | exact HB.out)))); have n1_ := Azz.mk (blk_below (g := gb116) (o := .cells #[.int .i64 a0_0, .int .i64 a0_1, .int .i64 a0_2, .int .u32 a0_3, .int .i64 a0_4] 24 (0, 0)) (by (with_reducible repeat (first | refine kdN ?_ _ | refine kd1 ?_ | refine kal ?_ _)); exact BK116.out) hb); have n2_ := Azz.mk (below_step (by repeat (first | (with_reducible first | exact HB.out | apply bal | apply pbN | apply bd1 | refine bst ?_ GE116.out) | exact HB.out)) hb); clear BK116; clear HB; have HO120 := n0_; have BK116 := n1_; have HB := n2_; clear n0_ n1_ n2_; clear hb ho14; have hcz15_0 : World.cell? _ ⟨gb116, 0, none⟩ = some (.int .i64 a0_0) := (kcl BK116.out 0).trans rfl; have hcz15_1 : World.cell? _ ⟨gb116, 1, none⟩ = some (.int .i64 a0_1) := (kcl BK116.out 1).trans rfl; have hcz15_2 : World.cell? _ ⟨gb116, 2, none⟩ = some (.int .i64 a0_2) := (kcl BK116.out 2).trans rfl; have hcz15_3 : World.cell? _ ⟨gb116, 3, none⟩ = some (.int .u32 a0_3) := (kcl BK116.out 3).trans rfl; have hcz15_4 : World.cell? _ ⟨gb116, 4, none⟩ = some (.int .i64 a0_4) := (kcl BK116.out 4).trans rfl; have hfz15_0 := kfz BK116.out 0; have hfz15_1 := kfz BK116.out 1; have hfz15_2 := kfz BK116.out 2; have hfz15_3 := kfz BK116.out 3; have hfz15_4 := kfz BK116.out 4; obtain ⟨Ao16, co16, eo16⟩ := Kd.R_slice HO120.out; subst eo16) | ((with_reducible refine gate_callee (f := 28) rfl ?_); refine goesL_ (some 19) rfl rfl Try.func28 (by kernel_rfl) rfl #[.slice Ao16 y118.length co16, .int .u64 (IntKind.u64.wrap (a0_2)), .int .i64 8] rfl (by (try simp only [List.map_toArray, List.map_cons, List.map_nil]); first | done | rfl | (simp only [List.length_drop, List.length_take]; rfl)) ?_; (with_reducible refine (frame_put.calls k (fun k_ => some k_ = (.slice Ao16 y118.length co16 : Value).ownBlock) (.slice Ao16 y118.length co16) y118 (IntKind.u64.wrap (a0_2)) 8 t121 w _ ?side1 ?side2 A4.out).mono ?_); (case side1 => repeat (first | (with_reducible first | exact HB.out | apply bal | apply pbN | apply bd1 | refine bst ?_ GE116.out) | exact HB.out)); (case side2 => exact Kd.R_tight rfl HO120.out); rintro e w17 ⟨v122, rfl, ho0, hb, hkp⟩; refine ⟨_, rfl, ?_⟩; have n0_ := Azz.mk (blk_kept (by (with_reducible repeat (first | refine kdN ?_ _ | refine kd1 ?_ | refine kal ?_ _)); exact BK116.out) hkp (fun hs_ => (fun e_ => (Kd.R_ne HO120.out BK116.out (by decide)) e_) hs_)); have n1_ := Azz.mk (Kd.R_mono (ok' := fun k_ => True) ho0 (fun k_ hk_ => trivial)); have n2_ := Azz.mk (hb); clear BK116; clear HB; clear HO120; have BK116 := n0_; have HO123 := n1_; have HB := n2_; clear n0_ n1_ n2_; (try clear hb); (try clear hkp); (try clear ho0); have hcz18_0 : World.cell? _ ⟨gb116, 0, none⟩ = some (.int .i64 a0_0) := (kcl BK116.out 0).trans rfl; have hcz18_1 : World.cell? _ ⟨gb116, 1, none⟩ = some (.int .i64 a0_1) := (kcl BK116.out 1).trans rfl; have hcz18_2 : World.cell? _ ⟨gb116, 2, none⟩ = some (.int .i64 a0_2) := (kcl BK116.out 2).trans rfl; have hcz18_3 : World.cell? _ ⟨gb116, 3, none⟩ = some (.int .u32 a0_3) := (kcl BK116.out 3).trans rfl; have hcz18_4 : World.cell? _ ⟨gb116, 4, none⟩ = some (.int .i64 a0_4) := (kcl BK116.out 4).trans rfl; have hfz18_0 := kfz BK116.out 0; have hfz18_1 := kfz BK116.out 1; have hfz18_2 := kfz BK116.out 2; have hfz18_3 := kfz BK116.out 3; have hfz18_4 := kfz BK116.out 4; obtain ⟨Ao19, co19, eo19⟩ := Kd.R_slice HO123.out; subst eo19) | ((with_reducible refine gate_callee (f := 28) rfl ?_); refine goesL_ (some 24) rfl rfl Try.func28 (by kernel_rfl) rfl #[.slice Ao19 t121.length co19, .int .u64 (IntKind.u64.wrap (a0_3)), .int .i64 4] rfl (by (try simp only [List.map_toArray, List.map_cons, List.map_nil]); first | done | rfl | (simp only [List.length_drop, List.length_take]; rfl)) ?_; (with_reducible refine (frame_put.calls k (fun k_ => some k_ = (.slice Ao19 t121.length co19 : Value).ownBlock) (.slice Ao19 t121.length co19) t121 (IntKind.u64.wrap (a0_3)) 4 t124 w _ ?side1 ?side2 A5.out).mono ?_); (case side1 => repeat (first | (with_reducible first | exact HB.out | apply bal | apply pbN | apply bd1 | refine bst ?_ GE116.out) | exact HB.out)); (case side2 => exact Kd.R_tight rfl HO123.out); rintro e w20 ⟨v125, rfl, ho0, hb, hkp⟩; refine ⟨_, rfl, ?_⟩; have n0_ := Azz.mk (blk_kept (by (with_reducible repeat (first | refine kdN ?_ _ | refine kd1 ?_ | refine kal ?_ _)); exact BK116.out) hkp (fun hs_ => (fun e_ => (Kd.R_ne HO123.out BK116.out (by decide)) e_) hs_)); have n1_ := Azz.mk (Kd.R_mono (ok' := fun k_ => True) ho0 (fun k_ hk_ => trivial)); have n2_ := Azz.mk (hb); clear BK116; clear HB; clear HO123; have BK116 := n0_; have HO126 := n1_; have HB := n2_; clear n0_ n1_ n2_; (try clear hb); (try clear hkp); (try clear ho0); have hcz21_0 : World.cell? _ ⟨gb116, 0, none⟩ = some (.int .i64 a0_0) := (kcl BK116.out 0).trans rfl; have hcz21_1 : World.cell? _ ⟨gb116, 1, none⟩ = some (.int .i64 a0_1) := (kcl BK116.out 1).trans rfl; have hcz21_2 : World.cell? _ ⟨gb116, 2, none⟩ = some (.int .i64 a0_2) := (kcl BK116.out 2).trans rfl; have hcz21_3 : World.cell? _ ⟨gb116, 3, none⟩ = some (.int .u32 a0_3) := (kcl BK116.out 3).trans rfl; have hcz21_4 : World.cell? _ ⟨gb116, 4, none⟩ = some (.int .i64 a0_4) := (kcl BK116.out 4).trans rfl; have hfz21_0 := kfz BK116.out 0; have hfz21_1 := kfz BK116.out 1; have hfz21_2 := kfz BK116.out 2; have hfz21_3 := kfz BK116.out 3; have hfz21_4 := kfz BK116.out 4; obtain ⟨Ao22, co22, eo22⟩ := Kd.R_slice HO126.out; subst eo22) | ((with_reducible refine gate_callee (f := 28) rfl ?_); refine goesL_ (some 29) rfl rfl Try.func28 (by kernel_rfl) rfl #[.slice Ao22 t124.length co22, .int .u64 (IntKind.u64.wrap (a0_4)), .int .i64 8] rfl (by (try simp only [List.map_toArray, List.map_cons, List.map_nil]); first | done | rfl | (simp only [List.length_drop, List.length_take]; rfl)) ?_; (with_reducible refine (frame_put.calls k (fun k_ => some k_ = (.slice Ao22 t124.length co22 : Value).ownBlock) (.slice Ao22 t124.length co22) t124 (IntKind.u64.wrap (a0_4)) 8 t127 w _ ?side1 ?side2 A6.out).mono ?_); (case side1 => repeat (first | (with_reducible first | exact HB.out | apply bal | apply pbN | apply bd1 | refine bst ?_ GE116.out) | exact HB.out)); (case side2 => exact Kd.R_tight rfl HO126.out); rintro e w23 ⟨v128, rfl, ho0, hb, hkp⟩; refine ⟨_, rfl, ?_⟩; have n0_ := Azz.mk (blk_kept (by (with_reducible repeat (first | refine kdN ?_ _ | refine kd1 ?_ | refine kal ?_ _)); exact BK116.out) hkp (fun hs_ => (fun e_ => (Kd.R_ne HO126.out BK116.out (by decide)) e_) hs_)); have n1_ := Azz.mk (Kd.R_mono (ok' := fun k_ => True) ho0 (fun k_ hk_ => trivial)); have n2_ := Azz.mk (hb); clear BK116; clear HB; clear HO126; have BK116 := n0_; have HO129 := n1_; have HB := n2_; clear n0_ n1_ n2_; (try clear hb); (try clear hkp); (try clear ho0); obtain ⟨Ao24, co24, eo24⟩ := Kd.R_slice HO129.out; subst eo24) | ((with_reducible refine gate_callee (f := 28) rfl ?_); refine goesL_ (some 31) rfl rfl Try.func28 (by kernel_rfl) rfl #[.slice Ao24 t127.length co24, .int .u64 0, .int .i64 6] rfl (by (try simp only [List.map_toArray, List.map_cons, List.map_nil]); first | done | rfl | (simp only [List.length_drop, List.length_take]; rfl)) ?_; (with_reducible refine (frame_put.calls k (fun k_ => some k_ = (.slice Ao24 t127.length co24 : Value).ownBlock) (.slice Ao24 t127.length co24) t127 0 6 t130 w _ ?side1 ?side2 A7.out).mono ?_); (case side1 => repeat (first | (with_reducible first | exact HB.out | apply bal | apply pbN | apply bd1 | refine bst ?_ GE116.out) | exact HB.out)); (case side2 => exact Kd.R_tight rfl HO129.out); rintro e w25 ⟨v131, rfl, ho0, hb, hkp⟩; refine ⟨_, rfl, ?_⟩; have n0_ := Azz.mk (blk_kept (by (with_reducible repeat (first | refine kdN ?_ _ | refine kd1 ?_ | refine kal ?_ _)); exact BK116.out) hkp (fun hs_ => (fun e_ => (Kd.R_ne HO129.out BK116.out (by decide)) e_) hs_)); have n1_ := Azz.mk (Kd.R_mono (ok' := fun k_ => True) ho0 (fun k_ hk_ => trivial)); have n2_ := Azz.mk (hb); clear BK116; clear HB; clear HO129; have BK116 := n0_; have HO132 := n1_; have HB := n2_; clear n0_ n1_ n2_; (try clear hb); (try clear hkp); (try clear ho0); obtain ⟨Ao26, co26, eo26⟩ := Kd.R_slice HO132.out; subst eo26) | ((with_reducible refine gate_callee (f := 29) rfl ?_); refine goesL_ (some 32) rfl rfl Try.func29 (by kernel_rfl) rfl #[.slice Ao26 t130.length co26] rfl (by (try simp only [List.map_toArray, List.map_cons, List.map_nil]); first | done | rfl | (simp only [List.length_drop, List.length_take]; rfl)) ?_; (with_reducible refine (frame_sealed.calls k (fun k_ => some k_ = (.slice Ao26 t130.length co26 : Value).ownBlock) (.slice Ao26 t130.length co26) t130 t133 w _ ?side1 ?side2 A8.out).mono ?_); (case side1 => repeat (first | (with_reducible first | exact HB.out | apply bal | apply pbN | apply bd1 | refine bst ?_ GE116.out) | exact HB.out)); (case side2 => exact Kd.R_tight rfl HO132.out); rintro e w27 ⟨v134, rfl, ho0, hb, hkp⟩; refine ⟨_, rfl, ?_⟩; have n0_ := Azz.mk (blk_kept (by (with_reducible repeat (first | refine kdN ?_ _ | refine kd1 ?_ | refine kal ?_ _)); exact BK116.out) hkp (fun hs_ => (fun e_ => (Kd.R_ne HO132.out BK116.out (by decide)) e_) hs_)); have n1_ := Azz.mk (Kd.R_mono (ok' := fun k_ => True) ho0 (fun k_ hk_ => trivial)); have n2_ := Azz.mk (hb); clear BK116; clear HB; clear HO132; have BK116 := n0_; have HO135 := n1_; have HB := n2_; clear n0_ n1_ n2_; (try clear hb); (try clear hkp); (try clear ho0)))
  go_ret2
  exact ⟨_, by first | rfl | (simp [errW_none, errW_some] <;> rfl) | (simp [*, errW_none, errW_some] <;> rfl), by (with_reducible repeat (first | apply Kd.R_alloc | apply Kd.R_drewN | apply Kd.R_drew)); exact HO135.out, by repeat (first | (with_reducible first | exact HB.out | apply bal | apply pbN | apply bd1 | refine bst ?_ GE116.out) | exact HB.out)⟩
 ·replace c3 := Bool.eq_false_iff.mpr c3
  subst c3
  have H1 : (some (([] : List Int), 1)) = some (r1, r2) := by rw [if_neg (show ¬ (false = true) by decide)] at H; exact H
  clear H
  have H := H1
  clear H1
  simp only [Option.some.injEq, Prod.mk.injEq] at H
  obtain ⟨rfl, rfl⟩ := H
  go_enter Try.func12, Try.ntmps12
  go_wp2_with (first | ((with_reducible refine gate_dst (N := 1) rfl ?_); refine box_event ?hg (N := 1) ?hd (cs := #[.int .i64 a0_0, .int .i64 a0_1, .int .i64 a0_2, .int .u32 a0_3, .int .i64 a0_4]) (t := 24) ?hr ?_; (case hd => rfl); (case hg => rfl); (case hr => first | (go_simp; done) | (go_simp; rfl)); intro gb116 hg w28 hbox hb; have n0_ := Azz.mk (below_step (by repeat (first | (with_reducible first | exact HB.out | apply bal | apply pbN | apply bd1) | exact HB.out)) hb); have n1_ := Azz.mk (hbox); have n2_ := Azz.mk ((by rw [hg]; exact (below_size (by repeat (first | (with_reducible first | exact HB.out | apply bal | apply pbN | apply bd1) | exact HB.out))) : w.heap.size ≤ gb116)); have n3_ := Azz.mk ((by rw [hg]; exact (below_size (by repeat (first | (with_reducible first | exact HB.out | apply bal | apply pbN | apply bd1) | exact HB.out))) : w.heap.size ≤ gb116)); clear HB; have HB := n0_; have BK116 := n1_; have GW116 := n2_; have GE116 := n3_; clear n0_ n1_ n2_ n3_; clear hb hbox hg; have hcz29_0 : World.cell? _ ⟨gb116, 0, none⟩ = some (.int .i64 a0_0) := (kcl BK116.out 0).trans rfl; have hcz29_1 : World.cell? _ ⟨gb116, 1, none⟩ = some (.int .i64 a0_1) := (kcl BK116.out 1).trans rfl; have hcz29_2 : World.cell? _ ⟨gb116, 2, none⟩ = some (.int .i64 a0_2) := (kcl BK116.out 2).trans rfl; have hcz29_3 : World.cell? _ ⟨gb116, 3, none⟩ = some (.int .u32 a0_3) := (kcl BK116.out 3).trans rfl; have hcz29_4 : World.cell? _ ⟨gb116, 4, none⟩ = some (.int .i64 a0_4) := (kcl BK116.out 4).trans rfl; have hfz29_0 := kfz BK116.out 0; have hfz29_1 := kfz BK116.out 1; have hfz29_2 := kfz BK116.out 2; have hfz29_3 := kfz BK116.out 3; have hfz29_4 := kfz BK116.out 4) | ((with_reducible refine gate_callee (f := 27) rfl ?_); refine goesL_ (some 6) rfl rfl Try.func27 (by kernel_rfl) rfl #[.agg #[.int .i64 a0_0, .int .i64 a0_1, .int .i64 a0_2, .int .u32 a0_3, .int .i64 a0_4]] rfl (by (try simp only [List.map_toArray, List.map_cons, List.map_nil]); first | done | rfl | (simp only [List.length_drop, List.length_take]; rfl)) ?_; (with_reducible refine (frame_rightControl.calls a0_0 a0_1 a0_2 a0_3 a0_4 false _ A2.out).mono ?_); rintro e w30 ⟨rfl, hb⟩; refine ⟨_, rfl, ?_⟩; have n0_ := Azz.mk (blk_below (g := gb116) (o := .cells #[.int .i64 a0_0, .int .i64 a0_1, .int .i64 a0_2, .int .u32 a0_3, .int .i64 a0_4] 24 (0, 0)) (by (with_reducible repeat (first | refine kdN ?_ _ | refine kd1 ?_ | refine kal ?_ _)); exact BK116.out) hb); have n1_ := Azz.mk (below_step (by repeat (first | (with_reducible first | exact HB.out | apply bal | apply pbN | apply bd1 | refine bst ?_ GE116.out) | exact HB.out)) hb); clear BK116; clear HB; have BK116 := n0_; have HB := n1_; clear n0_ n1_; (try clear hb); (try clear hb2); (try clear hk); (try clear hi)))
  go_ret2
  exact ⟨_, by first | rfl | (simp [errW_none, errW_some] <;> rfl) | (simp [*, errW_none, errW_some] <;> rfl), by first | exact Kd.R_nil _ _ _ _ _ | exact Kd.N_nil _ _ _ _ _ | exact Kd.V_nil _ _ _ _ _ | exact Kd.Q_nil _ _ _ _ _ | exact Kd.S_nil _ _ _ _ _, by repeat (first | (with_reducible first | exact HB.out | apply bal | apply pbN | apply bd1 | refine bst ?_ GE116.out) | exact HB.out)⟩

end Go.Proofs.Ytgeheedfmdlefaa.PF
end

section
namespace Go.Proofs.Ytgeheedfmdlefaa.PF
open Go.RowKit Go.Proofs.YtgeheedfmdlefaaW.PrintWords Go.Proofs.YtgeheedfmdlefaaW.PrintLast Go.Proofs.YtgeheedfmdlefaaW.PrintMore Go.Proofs.Ytgeheedfmdlefaa.Conv
attribute [local go_sem] max2_int min2_int max_two min_two max_three min_three max_four min_four   -- for this text's walks alone
set_option linter.unusedVariables false
set_option linter.unusedSimpArgs false

/-! ### frame_Data: function 17 -/
def frame_Data.f (k : Nat) (a0_0 : Int) (a0_1 : Int) (a0_2 : Int) (a0_3 : ByteArray) (a0_4 : Int) : Option (List Int × Int) := (frame_rightData.f a0_0 a0_1 a0_2 a0_3 a0_4).bind fun t185 => (if t185 = true then ((frame_put.f k (([8, 0, (a0_0) % 256, (a0_1) % 256] : List Int)) (IntKind.u64.wrap (a0_2)) 4).bind fun t189 => ((frame_put.f k t189 (IntKind.u64.wrap ((a0_3.size : Int))) 2).bind fun t192 => (if t192.length + a0_3.size < 140737488355328 then ((some (t192 ++ bytesOf a0_3 : List Int)).bind fun y195 => (if 0 ≤ (wrap64 ((wrap64 (a0_4 - 4)) - (y195.length : Int))) then (if y195.length + (wrap64 ((wrap64 (a0_4 - 4)) - (y195.length : Int)) : Int).toNat < 140737488355328 then ((frame_sealed.f k (y195 ++ List.replicate (wrap64 ((wrap64 (a0_4 - 4)) - (y195.length : Int)) : Int).toNat 0)).bind fun t201 => (some (t201, 0))) else (none)) else (none))) else (none)))) else (some (([] : List Int), 1)))
theorem frame_Data.mono : ∀ a0 a1 a2 a3 a4 k, LeO (frame_Data.f k a0 a1 a2 a3 a4) (frame_Data.f (k + 1) a0 a1 a2 a3 a4) := by
 intro a0 a1 a2 a3 a4 k
 unfold frame_Data.f
 repeat' first
   | (with_reducible exact frame_put.mono _ _ _ _)
   | (with_reducible exact frame_sealed.mono _ _)
   | (with_reducible exact LeO.refl _)
   | (with_reducible exact LeO.none _)
   | (with_reducible refine LeO.ite ?_ ?_)
   | (with_reducible refine LeO.bind ?_ (fun _ => ?_))
   | exact frame_put.mono _ _ _ _
   | exact frame_sealed.mono _ _
   | exact LeO.none _
   | refine LeO.ite ?_ ?_
   | refine LeO.bind ?_ (fun _ => ?_)
set_option maxHeartbeats 8000000 in
set_option maxRecDepth 100000 in
theorem frame_Data.calls (k : Nat) (a0_0 : Int) (a0_1 : Int) (a0_2 : Int) (a0_3 : ByteArray) (a0_4 : Int) (r1 : List Int) (r2 : Int) (w : World) (h : frame_Data.f k a0_0 a0_1 a0_2 a0_3 a0_4 = some (r1, r2)) :
  Calls Try.prog 17 #[.agg #[.int .i64 a0_0, .int .i64 a0_1, .int .i64 a0_2, .string a0_3, .int .i64 a0_4]] w fun e w' => ∃ v0_ : Value, e = .returned (.tuple #[v0_, .int .i64 r2]) ∧ Kd.R (Kd.int .u8) 5 w' w.heap.size (fun _ => True) v0_ r1 ∧ Below w.heap.size w w' := by
 have hu36 := Try.underlying36
 have HB := Azz.mk (Below.refl w.heap.size w)
 have H : ((frame_rightData.f a0_0 a0_1 a0_2 a0_3 a0_4).bind fun t185 => (if t185 = true then ((frame_put.f k (([8, 0, (a0_0) % 256, (a0_1) % 256] : List Int)) (IntKind.u64.wrap (a0_2)) 4).bind fun t189 => ((frame_put.f k t189 (IntKind.u64.wrap ((a0_3.size : Int))) 2).bind fun t192 => (if t192.length + a0_3.size < 140737488355328 then ((some (t192 ++ bytesOf a0_3 : List Int)).bind fun y195 => (if 0 ≤ (wrap64 ((wrap64 (a0_4 - 4)) - (y195.length : Int))) then (if y195.length + (wrap64 ((wrap64 (a0_4 - 4)) - (y195.length : Int)) : Int).toNat < 140737488355328 then ((frame_sealed.f k (y195 ++ List.replicate (wrap64 ((wrap64 (a0_4 - 4)) - (y195.length : Int)) : Int).toNat 0)).bind fun t201 => (some (t201, 0))) else (none)) else (none))) else (none)))) else (some (([] : List Int), 1)))) = some (r1, r2) := h
 clear h
 replace H := Option.bind_eq_some_iff.mp H
 obtain ⟨t185, A20, H⟩ := H
 replace H : (if t185 = true then ((frame_put.f k (([8, 0, (a0_0) % 256, (a0_1) % 256] : List Int)) (IntKind.u64.wrap (a0_2)) 4).bind fun t189 => ((frame_put.f k t189 (IntKind.u64.wrap ((a0_3.size : Int))) 2).bind fun t192 => (if t192.length + a0_3.size < 140737488355328 then ((some (t192 ++ bytesOf a0_3 : List Int)).bind fun y195 => (if 0 ≤ (wrap64 ((wrap64 (a0_4 - 4)) - (y195.length : Int))) then (if y195.length + (wrap64 ((wrap64 (a0_4 - 4)) - (y195.length : Int)) : Int).toNat < 140737488355328 then ((frame_sealed.f k (y195 ++ List.replicate (wrap64 ((wrap64 (a0_4 - 4)) - (y195.length : Int)) : Int).toNat 0)).bind fun t201 => (some (t201, 0))) else (none)) else (none))) else (none)))) else (some (([] : List Int), 1))) = some (r1, r2) := H
 have A2 := Azz.mk A20
 clear A20
 by_cases c3 : t185 = true
 ·subst c3
  have H1 : ((frame_put.f k (([8, 0, (a0_0) % 256, (a0_1) % 256] : List Int)) (IntKind.u64.wrap (a0_2)) 4).bind fun t189 => ((frame_put.f k t189 (IntKind.u64.wrap ((a0_3.size : Int))) 2).bind fun t192 => (if t192.length + a0_3.size < 140737488355328 then ((some (t192 ++ bytesOf a0_3 : List Int)).bind fun y195 => (if 0 ≤ (wrap64 ((wrap64 (a0_4 - 4)) - (y195.length : Int))) then (if y195.length + (wrap64 ((wrap64 (a0_4 - 4)) - (y195.length : Int)) : Int).toNat < 140737488355328 then ((frame_sealed.f k (y195 ++ List.replicate (wrap64 ((wrap64 (a0_4 - 4)) - (y195.length : Int)) : Int).toNat 0)).bind fun t201 => (some (t201, 0))) else (none)) else (none))) else (none)))) = some (r1, r2) := by rw [if_pos rfl] at H; exact H
  clear H
  have H := H1
  clear H1
  obtain ⟨y186, hy186⟩ : ∃ y_ : List Int, y_ = (([8, 0, (a0_0) % 256, (a0_1) % 256] : List Int)) := ⟨_, rfl⟩
  replace H : ((frame_put.f k y186 (IntKind.u64.wrap (a0_2)) 4).bind fun t189 => ((frame_put.f k t189 (IntKind.u64.wrap ((a0_3.size : Int))) 2).bind fun t192 => (if t192.length + a0_3.size < 140737488355328 then ((some (t192 ++ bytesOf a0_3 : List Int)).bind fun y195 => (if 0 ≤ (wrap64 ((wrap64 (a0_4 - 4)) - (y195.length : Int))) then (if y195.length + (wrap64 ((wrap64 (a0_4 - 4)) - (y195.length : Int)) : Int).toNat < 140737488355328 then ((frame_sealed.f k (y195 ++ List.replicate (wrap64 ((wrap64 (a0_4 - 4)) - (y195.length : Int)) : Int).toNat 0)).bind fun t201 => (some (t201, 0))) else (none)) else (none))) else (none)))) = some (r1, r2) := by first | (rw [hy186]; with_reducible exact H) | (have H2_ := (Option.bind_some _ _).symm.trans H; rw [hy186]; with_reducible exact H2_) | (have H2_ := (Option.bind_some _ _).symm.trans H; with_reducible exact H2_) | with_reducible exact H | (rw [hy186]; exact H) | exact H
  have Ny186 := Azz.mk hy186
  clear hy186
  replace H := Option.bind_eq_some_iff.mp H
  obtain ⟨t189, A40, H⟩ := H
  replace H : ((frame_put.f k t189 (IntKind.u64.wrap ((a0_3.size : Int))) 2).bind fun t192 => (if t192.length + a0_3.size < 140737488355328 then ((some (t192 ++ bytesOf a0_3 : List Int)).bind fun y195 => (if 0 ≤ (wrap64 ((wrap64 (a0_4 - 4)) - (y195.length : Int))) then (if y195.length + (wrap64 ((wrap64 (a0_4 - 4)) - (y195.length : Int)) : Int).toNat < 140737488355328 then ((frame_sealed.f k (y195 ++ List.replicate (wrap64 ((wrap64 (a0_4 - 4)) - (y195.length : Int)) : Int).toNat 0)).bind fun t201 => (some (t201, 0))) else (none)) else (none))) else (none))) = some (r1, r2) := H
  have A4 := Azz.mk A40
  clear A40
  replace H := Option.bind_eq_some_iff.mp H
  obtain ⟨t192, A50, H⟩ := H
  replace H : (if t192.length + a0_3.size < 140737488355328 then ((some (t192 ++ bytesOf a0_3 : List Int)).bind fun y195 => (if 0 ≤ (wrap64 ((wrap64 (a0_4 - 4)) - (y195.length : Int))) then (if y195.length + (wrap64 ((wrap64 (a0_4 - 4)) - (y195.length : Int)) : Int).toNat < 140737488355328 then ((frame_sealed.f k (y195 ++ List.replicate (wrap64 ((wrap64 (a0_4 - 4)) - (y195.length : Int)) : Int).toNat 0)).bind fun t201 => (some (t201, 0))) else (none)) else (none))) else (none)) = some (r1, r2) := H
  have A5 := Azz.mk A50
  clear A50
  by_cases c6 : t192.length + a0_3.size < 140737488355328
  ·rw [if_pos c6] at H
   have LMc6 := Azz.mk c6
   clear c6
   obtain ⟨y195, hy195⟩ : ∃ y_ : List Int, y_ = (t192 ++ bytesOf a0_3) := ⟨_, rfl⟩
   replace H : (if 0 ≤ (wrap64 ((wrap64 (a0_4 - 4)) - (y195.length : Int))) then (if y195.length + (wrap64 ((wrap64 (a0_4 - 4)) - (y195.length : Int)) : Int).toNat < 140737488355328 then ((frame_sealed.f k (y195 ++ List.replicate (wrap64 ((wrap64 (a0_4 - 4)) - (y195.length : Int)) : Int).toNat 0)).bind fun t201 => (some (t201, 0))) else (none)) else (none)) = some (r1, r2) := by first | (rw [hy195]; with_reducible exact H) | (have H2_ := (Option.bind_some _ _).symm.trans H; rw [hy195]; with_reducible exact H2_) | (have H2_ := (Option.bind_some _ _).symm.trans H; with_reducible exact H2_) | with_reducible exact H | (rw [hy195]; exact H) | exact H
   have Ny195 := Azz.mk hy195
   clear hy195
   obtain ⟨ji7, hji7⟩ : ∃ j_ : Int, (wrap64 ((wrap64 (a0_4 - 4)) - (y195.length : Int))) = j_ := ⟨_, rfl⟩
   replace H : (if 0 ≤ (ji7) then (if y195.length + (ji7 : Int).toNat < 140737488355328 then ((frame_sealed.f k (y195 ++ List.replicate (ji7 : Int).toNat 0)).bind fun t201 => (some (t201, 0))) else (none)) else (none)) = some (r1, r2) := by first | (rw [hji7] at H; exact H) | (simp only [hji7] at H ⊢; exact H)
   (try rw [hji7] at A2)
   (try rw [hji7] at A4)
   (try rw [hji7] at A5)
   have hji7w : (IntKind.i64.wrap ((wrap64 (a0_4 - 4)) - (y195.length : Int))) = ji7 := (i64_w _).trans hji7
   by_cases c8 : 0 ≤ (ji7)
   ·rw [if_pos c8] at H
    have c8b0 := eq_true c8
    have c8b1 : decide (0 ≤ (ji7)) = true := decide_eq_true c8
    clear c8
    by_cases c9 : y195.length + (ji7 : Int).toNat < 140737488355328
    ·rw [if_pos c9] at H
     have LMc9 := Azz.mk c9
     clear c9
     obtain ⟨y198, hy198⟩ : ∃ y_ : List Int, y_ = (y195 ++ List.replicate (ji7 : Int).toNat 0) := ⟨_, rfl⟩
     replace H : ((frame_sealed.f k y198).bind fun t201 => (some (t201, 0))) = some (r1, r2) := by first | (rw [hy198]; with_reducible exact H) | (have H2_ := (Option.bind_some _ _).symm.trans H; rw [hy198]; with_reducible exact H2_) | (have H2_ := (Option.bind_some _ _).symm.trans H; with_reducible exact H2_) | with_reducible exact H | (rw [hy198]; exact H) | exact H
     have Ny198 := Azz.mk hy198
     clear hy198
     replace H := Option.bind_eq_some_iff.mp H
     obtain ⟨t201, A100, H⟩ := H
     replace H : (some (t201, 0)) = some (r1, r2) := H
     have A10 := Azz.mk A100
     clear A100
     simp only [Option.some.injEq, Prod.mk.injEq] at H
     obtain ⟨rfl, rfl⟩ := H
     go_enter Try.func17, Try.ntmps17
     go_wp2_with (first | ((with_reducible refine gate_dst (N := 1) rfl ?_); refine box_event ?hg (N := 1) ?hd (cs := #[.int .i64 a0_0, .int .i64 a0_1, .int .i64 a0_2, .string a0_3, .int .i64 a0_4]) (t := 36) ?hr ?_; (case hd => rfl); (case hg => rfl); (case hr => first | (go_simp; done) | (go_simp; rfl)); intro gb184 hg w11 hbox hb; have n0_ := Azz.mk (below_step (by repeat (first | (with_reducible first | exact HB.out | apply bal | apply pbN | apply bd1) | exact HB.out)) hb); have n1_ := Azz.mk (hbox); have n2_ := Azz.mk ((by rw [hg]; exact (below_size (by repeat (first | (with_reducible first | exact HB.out | apply bal | apply pbN | apply bd1) | exact HB.out))) : w.heap.size ≤ gb184)); have n3_ := Azz.mk ((by rw [hg]; exact (below_size (by repeat (first | (with_reducible first | exact HB.out | apply bal | apply pbN | apply bd1) | exact HB.out))) : w.heap.size ≤ gb184)); clear HB; have HB := n0_; have BK184 := n1_; have GW184 := n2_; have GE184 := n3_; clear n0_ n1_ n2_ n3_; clear hb hbox hg; have hcz12_0 : World.cell? _ ⟨gb184, 0, none⟩ = some (.int .i64 a0_0) := (kcl BK184.out 0).trans rfl; have hcz12_1 : World.cell? _ ⟨gb184, 1, none⟩ = some (.int .i64 a0_1) := (kcl BK184.out 1).trans rfl; have hcz12_2 : World.cell? _ ⟨gb184, 2, none⟩ = some (.int .i64 a0_2) := (kcl BK184.out 2).trans rfl; have hcz12_3 : World.cell? _ ⟨gb184, 3, none⟩ = some (.string a0_3) := (kcl BK184.out 3).trans rfl; have hcz12_4 : World.cell? _ ⟨gb184, 4, none⟩ = some (.int .i64 a0_4) := (kcl BK184.out 4).trans rfl; have hfz12_0 := kfz BK184.out 0; have hfz12_1 := kfz BK184.out 1; have hfz12_2 := kfz BK184.out 2; have hfz12_3 := kfz BK184.out 3; have hfz12_4 := kfz BK184.out 4) | ((with_reducible refine gate_callee (f := 34) rfl ?_); refine goesL_ (some 6) rfl rfl Try.func34 (by kernel_rfl) rfl #[.agg #[.int .i64 a0_0, .int .i64 a0_1, .int .i64 a0_2, .string a0_3, .int .i64 a0_4]] rfl (by (try simp only [List.map_toArray, List.map_cons, List.map_nil]); first | done | rfl | (simp only [List.length_drop, List.length_take]; rfl)) ?_; (with_reducible refine (frame_rightData.calls a0_0 a0_1 a0_2 a0_3 a0_4 true _ A2.out).mono ?_); rintro e w13 ⟨rfl, hb⟩; refine ⟨_, rfl, ?_⟩; have n0_ := Azz.mk (blk_below (g := gb184) (o := .cells #[.int .i64 a0_0, .int .i64 a0_1, .int .i64 a0_2, .string a0_3, .int .i64 a0_4] 36 (0, 0)) (by (with_reducible repeat (first | refine kdN ?_ _ | refine kd1 ?_ | refine kal ?_ _)); exact BK184.out) hb); have n1_ := Azz.mk (below_step (by repeat (first | (with_reducible first | exact HB.out | apply bal | apply pbN | apply bd1 | refine bst ?_ GE184.out) | exact HB.out)) hb); clear BK184; clear HB; have BK184 := n0_; have HB := n1_; clear n0_ n1_; (try clear hb); (try clear hb2); (try clear hk); (try clear hi); have hcz14_0 : World.cell? _ ⟨gb184, 0, none⟩ = some (.int .i64 a0_0) := (kcl BK184.out 0).trans rfl; have hcz14_1 : World.cell? _ ⟨gb184, 1, none⟩ = some (.int .i64 a0_1) := (kcl BK184.out 1).trans rfl; have hcz14_2 : World.cell? _ ⟨gb184, 2, none⟩ = some (.int .i64 a0_2) := (kcl BK184.out 2).trans rfl; have hcz14_3 : World.cell? _ ⟨gb184, 3, none⟩ = some (.string a0_3) := (kcl BK184.out 3).trans rfl; have hcz14_4 : World.cell? _ ⟨gb184, 4, none⟩ = some (.int .i64 a0_4) := (kcl BK184.out 4).trans rfl; have hfz14_0 := kfz BK184.out 0; have hfz14_1 := kfz BK184.out 1; have hfz14_2 := kfz BK184.out 2; have hfz14_3 := kfz BK184.out 3; have hfz14_4 := kfz BK184.out 4) | ((with_reducible refine gate_dst (N := 14) rfl ?_); refine Kd.R_lit (Kd.int .u8) _ 5 ?hg (N := 14) ?hd (xs := ([8, 0, (a0_0) % 256, (a0_1) % 256] : List Int)) (inner := [.int .u8 8, .int .u8 0, .int .u8 ((a0_0) % 256), .int .u8 ((a0_1) % 256)]) (ok := fun _ => True) (okp := fun _ => True) ?hr ?hp (fun _ hk => hk) trivial (Below.refl _ _) (Nat.le_refl _) (by simp) ?_; (case hd => rfl); (case hg => rfl); (case hr => first | (go_simp; done) | (go_simp; rfl)); (case hp => exact (Reps.one (show Kd.M (Kd.int .u8) _ _ _ 8 [.int .u8 8] from rfl) (Reps.one (show Kd.M (Kd.int .u8) _ _ _ 0 [.int .u8 0] from rfl) (Reps.one (show Kd.M (Kd.int .u8) _ _ _ ((a0_0) % 256) [.int .u8 ((a0_0) % 256)] from rfl) (Reps.one (show Kd.M (Kd.int .u8) _ _ _ ((a0_1) % 256) [.int .u8 ((a0_1) % 256)] from rfl) (Reps.none _ _)))))); intro v187 w15 ho16 hb hg_ hnew_; clear hg_ hnew_; (first | rw [← Ny186.out] at ho16 | (simp only [Int.reduceToNat] at ho16; rw [← Ny186.out] at ho16)); have n0_ := Azz.mk (Kd.R_lower ho16 (below_size (by repeat (first | (with_reducible first | exact HB.out | apply bal | apply pbN | apply bd1 | refine bst ?_ GE184.out) | exact HB.out)))); have n1_ := Azz.mk (blk_below (g := gb184) (o := .cells #[.int .i64 a0_0, .int .i64 a0_1, .int .i64 a0_2, .string a0_3, .int .i64 a0_4] 36 (0, 0)) (by (with_reducible repeat (first | refine kdN ?_ _ | refine kd1 ?_ | refine kal ?_ _)); exact BK184.out) hb); have n2_ := Azz.mk (below_step (by repeat (first | (with_reducible first | exact HB.out | apply bal | apply pbN | apply bd1 | refine bst ?_ GE184.out) | exact HB.out)) hb); clear BK184; clear HB; have HO188 := n0_; have BK184 := n1_; have HB := n2_; clear n0_ n1_ n2_; clear hb ho16; have hcz17_0 : World.cell? _ ⟨gb184, 0, none⟩ = some (.int .i64 a0_0) := (kcl BK184.out 0).trans rfl; have hcz17_1 : World.cell? _ ⟨gb184, 1, none⟩ = some (.int .i64 a0_1) := (kcl BK184.out 1).trans rfl; have hcz17_2 : World.cell? _ ⟨gb184, 2, none⟩ = some (.int .i64 a0_2) := (kcl BK184.out 2).trans rfl; have hcz17_3 : World.cell? _ ⟨gb184, 3, none⟩ = some (.string a0_3) := (kcl BK184.out 3).trans rfl; have hcz17_4 : World.cell? _ ⟨gb184, 4, none⟩ = some (.int .i64 a0_4) := (kcl BK184.out 4).trans rfl; have hfz17_0 := kfz BK184.out 0; have hfz17_1 := kfz BK184.out 1; have hfz17_2 := kfz BK184.out 2; have hfz17_3 := kfz BK184.out 3; have hfz17_4 := kfz BK184.out 4; obtain ⟨Ao18, co18, eo18⟩ := Kd.R_slice HO188.out; subst eo18) | ((with_reducible refine gate_callee (f := 28) rfl ?_); refine goesL_ (some 19) rfl rfl Try.func28 (by kernel_rfl) rfl #[.slice Ao18 y186.length co18, .int .u64 (IntKind.u64.wrap (a0_2)), .int .i64 4] rfl (by (try simp only [List.map_toArray, List.map_cons, List.map_nil]); first | done | rfl | (simp only [List.length_drop, List.length_take]; rfl)) ?_; (with_reducible refine (frame_put.calls k (fun k_ => some k_ = (.slice Ao18 y186.length co18 : Value).ownBlock) (.slice Ao18 y186.length co18) y186 (IntKind.u64.wrap (a0_2)) 4 t189 w _ ?side1 ?side2 A4.out).mono ?_); (case side1 => repeat (first | (with_reducible first | exact HB.out | apply bal | apply pbN | apply bd1 | refine bst ?_ GE184.out) | exact HB.out)); (case side2 => exact Kd.R_tight rfl HO188.out); rintro e w19 ⟨v190, rfl, ho0, hb, hkp⟩; refine ⟨_, rfl, ?_⟩; have n0_ := Azz.mk (blk_kept (by (with_reducible repeat (first | refine kdN ?_ _ | refine kd1 ?_ | refine kal ?_ _)); exact BK184.out) hkp (fun hs_ => (fun e_ => (Kd.R_ne HO188.out BK184.out (by decide)) e_) hs_)); have n1_ := Azz.mk (Kd.R_mono (ok' := fun k_ => True) ho0 (fun k_ hk_ => trivial)); have n2_ := Azz.mk (hb); clear BK184; clear HB; clear HO188; have BK184 := n0_; have HO191 := n1_; have HB := n2_; clear n0_ n1_ n2_; (try clear hb); (try clear hkp); (try clear ho0); have hcz20_0 : World.cell? _ ⟨gb184, 0, none⟩ = some (.int .i64 a0_0) := (kcl BK184.out 0).trans rfl; have hcz20_1 : World.cell? _ ⟨gb184, 1, none⟩ = some (.int .i64 a0_1) := (kcl BK184.out 1).trans rfl; have hcz20_2 : World.cell? _ ⟨gb184, 2, none⟩ = some (.int .i64 a0_2) := (kcl BK184.out 2).trans rfl; have hcz20_3 : World.cell? _ ⟨gb184, 3, none⟩ = some (.string a0_3) := (kcl BK184.out 3).trans rfl; have hcz20_4 : World.cell? _ ⟨gb184, 4, none⟩ = some (.int .i64 a0_4) := (kcl BK184.out 4).trans rfl; have hfz20_0 := kfz BK184.out 0; have hfz20_1 := kfz BK184.out 1; have hfz20_2 := kfz BK184.out 2; have hfz20_3 := kfz BK184.out 3; have hfz20_4 := kfz BK184.out 4; obtain ⟨Ao21, co21, eo21⟩ := Kd.R_slice HO191.out; subst eo21) | ((with_reducible refine gate_callee (f := 28) rfl ?_); refine goesL_ (some 25) rfl rfl Try.func28 (by kernel_rfl) rfl #[.slice Ao21 t189.length co21, .int .u64 (IntKind.u64.wrap ((a0_3.size : Int))), .int .i64 2] rfl (by (try simp only [List.map_toArray, List.map_cons, List.map_nil]); first | done | rfl | (simp only [List.length_drop, List.length_take]; rfl)) ?_; (with_reducible refine (frame_put.calls k (fun k_ => some k_ = (.slice Ao21 t189.length co21 : Value).ownBlock) (.slice Ao21 t189.length co21) t189 (IntKind.u64.wrap ((a0_3.size : Int))) 2 t192 w _ ?side1 ?side2 A5.out).mono ?_); (case side1 => repeat (first | (with_reducible first | exact HB.out | apply bal | apply pbN | apply bd1 | refine bst ?_ GE184.out) | exact HB.out)); (case side2 => exact Kd.R_tight rfl HO191.out); rintro e w22 ⟨v193, rfl, ho0, hb, hkp⟩; refine ⟨_, rfl, ?_⟩; have n0_ := Azz.mk (blk_kept (by (with_reducible repeat (first | refine kdN ?_ _ | refine kd1 ?_ | refine kal ?_ _)); exact BK184.out) hkp (fun hs_ => (fun e_ => (Kd.R_ne HO191.out BK184.out (by decide)) e_) hs_)); have n1_ := Azz.mk (Kd.R_mono (ok' := fun k_ => True) ho0 (fun k_ hk_ => trivial)); have n2_ := Azz.mk (hb); clear BK184; clear HB; clear HO191; have BK184 := n0_; have HO194 := n1_; have HB := n2_; clear n0_ n1_ n2_; (try clear hb); (try clear hkp); (try clear ho0); have hcz23_0 : World.cell? _ ⟨gb184, 0, none⟩ = some (.int .i64 a0_0) := (kcl BK184.out 0).trans rfl; have hcz23_1 : World.cell? _ ⟨gb184, 1, none⟩ = some (.int .i64 a0_1) := (kcl BK184.out 1).trans rfl; have hcz23_2 : World.cell? _ ⟨gb184, 2, none⟩ = some (.int .i64 a0_2) := (kcl BK184.out 2).trans rfl; have hcz23_3 : World.cell? _ ⟨gb184, 3, none⟩ = some (.string a0_3) := (kcl BK184.out 3).trans rfl; have hcz23_4 : World.cell? _ ⟨gb184, 4, none⟩ = some (.int .i64 a0_4) := (kcl BK184.out 4).trans rfl; have hfz23_0 := kfz BK184.out 0; have hfz23_1 := kfz BK184.out 1; have hfz23_2 := kfz BK184.out 2; have hfz23_3 := kfz BK184.out 3; have hfz23_4 := kfz BK184.out 4) | (at_builtin; refine print_append_str (w0 := w) w.heap.size rfl (.tmp 26) _ 26 9 5 rfl Try.underlying26 Try.underlying9 info5 v193 t192 a0_3 rfl rfl ?aO ?aB ?aS ?aL ?_; (case aB => exact (by repeat (first | (with_reducible first | exact HB.out | apply bal | apply pbN | apply bd1 | refine bst ?_ GE184.out) | exact HB.out))); (case aO => exact (Kd.own_of_R (by (with_reducible repeat (first | apply Kd.R_alloc | apply Kd.R_drewN | apply Kd.R_drew)); exact HO194.out))); (case aS => exact (below_size (by repeat (first | (with_reducible first | exact HB.out | apply bal | apply pbN | apply bd1 | refine bst ?_ GE184.out) | exact HB.out)))); (case aL => have := LMc6.out; omega); intro v196 w24 ho0 hb hg; have ho := Kd.R_of_own (h1 := fun _ => rfl) (ok := fun _ => True) ho0 (fun _ _ => trivial); clear ho0; have hat := True.intro; rw [← Ny195.out] at ho; change Kd.R (Kd.int .u8) 5 w24 w.heap.size (fun _ => True) v196 y195 at ho; have n0_ := Azz.mk (blk_grown (g := gb184) (o := .cells #[.int .i64 a0_0, .int .i64 a0_1, .int .i64 a0_2, .string a0_3, .int .i64 a0_4] 36 (0, 0)) (by (with_reducible repeat (first | refine kdN ?_ _ | refine kd1 ?_ | refine kal ?_ _)); exact BK184.out) hg (Kd.R_ne HO194.out BK184.out (by decide))); have n1_ := Azz.mk (hb); have n2_ := Azz.mk (ho); clear BK184; clear HB; clear HO194; have BK184 := n0_; have HB := n1_; have HO197 := n2_; clear n0_ n1_ n2_; clear ho hb hg hat; have hcz25_0 : World.cell? _ ⟨gb184, 0, none⟩ = some (.int .i64 a0_0) := (kcl BK184.out 0).trans rfl; have hcz25_1 : World.cell? _ ⟨gb184, 1, none⟩ = some (.int .i64 a0_1) := (kcl BK184.out 1).trans rfl; have hcz25_2 : World.cell? _ ⟨gb184, 2, none⟩ = some (.int .i64 a0_2) := (kcl BK184.out 2).trans rfl; have hcz25_3 : World.cell? _ ⟨gb184, 3, none⟩ = some (.string a0_3) := (kcl BK184.out 3).trans rfl; have hcz25_4 : World.cell? _ ⟨gb184, 4, none⟩ = some (.int .i64 a0_4) := (kcl BK184.out 4).trans rfl; have hfz25_0 := kfz BK184.out 0; have hfz25_1 := kfz BK184.out 1; have hfz25_2 := kfz BK184.out 2; have hfz25_3 := kfz BK184.out 3; have hfz25_4 := kfz BK184.out 4; obtain ⟨Ao26, co26, eo26⟩ := Kd.R_slice HO197.out; subst eo26) | (at_builtin; refine Kd.R_append_zeros (Kd.int .u8) (w0 := w) w.heap.size rfl (.tmp 30) (.tmp 36) 26 3 5 (.int .u8 0) 1 rfl Try.underlying26 Try.underlying3 info5 rfl (by decide) (by omega) (.slice Ao26 y195.length co26) y195 0 (ji7 : Int) (fun _ => True) rfl rfl rfl ?aF ?aO (of_decide_eq_true (by first | (with_reducible assumption) | assumption)) ?aB ?aS ?aL ?_; (case aB => exact (by repeat (first | (with_reducible first | exact HB.out | apply bal | apply pbN | apply bd1 | refine bst ?_ GE184.out) | exact HB.out))); (case aF => exact (fun _ _ => trivial)); (case aO => exact (by (with_reducible repeat (first | apply Kd.R_alloc | apply Kd.R_drewN | apply Kd.R_drew)); exact HO197.out)); (case aS => exact (below_size (by repeat (first | (with_reducible first | exact HB.out | apply bal | apply pbN | apply bd1 | refine bst ?_ GE184.out) | exact HB.out)))); (case aL => have := LMc9.out; omega); intro v199 w27 ho hb hg hat; rw [← Ny198.out] at ho; have n0_ := Azz.mk (blk_grown (g := gb184) (o := .cells #[.int .i64 a0_0, .int .i64 a0_1, .int .i64 a0_2, .string a0_3, .int .i64 a0_4] 36 (0, 0)) (by (with_reducible repeat (first | refine kdN ?_ _ | refine kd1 ?_ | refine kal ?_ _)); exact BK184.out) hg (Kd.R_ne HO197.out BK184.out (by decide))); have n1_ := Azz.mk (hb); have n2_ := Azz.mk (ho); clear BK184; clear HB; clear HO197; have BK184 := n0_; have HB := n1_; have HO200 := n2_; clear n0_ n1_ n2_; clear ho hb hg hat; obtain ⟨Ao28, co28, eo28⟩ := Kd.R_slice HO200.out; subst eo28) | ((with_reducible refine gate_callee (f := 29) rfl ?_); refine goesL_ (some 38) rfl rfl Try.func29 (by kernel_rfl) rfl #[.slice Ao28 y198.length co28] rfl (by (try simp only [List.map_toArray, List.map_cons, List.map_nil]); first | done | rfl | (simp only [List.length_drop, List.length_take]; rfl)) ?_; (with_reducible refine (frame_sealed.calls k (fun k_ => some k_ = (.slice Ao28 y198.length co28 : Value).ownBlock) (.slice Ao28 y198.length co28) y198 t201 w _ ?side1 ?side2 A10.out).mono ?_); (case side1 => repeat (first | (with_reducible first | exact HB.out | apply bal | apply pbN | apply bd1 | refine bst ?_ GE184.out) | exact HB.out)); (case side2 => exact Kd.R_tight rfl HO200.out); rintro e w29 ⟨v202, rfl, ho0, hb, hkp⟩; refine ⟨_, rfl, ?_⟩; have n0_ := Azz.mk (blk_kept (by (with_reducible repeat (first | refine kdN ?_ _ | refine kd1 ?_ | refine kal ?_ _)); exact BK184.out) hkp (fun hs_ => (fun e_ => (Kd.R_ne HO200.out BK184.out (by decide)) e_) hs_)); have n1_ := Azz.mk (Kd.R_mono (ok' := fun k_ => True) ho0 (fun k_ hk_ => trivial)); have n2_ := Azz.mk (hb); clear BK184; clear HB; clear HO200; have BK184 := n0_; have HO203 := n1_; have HB := n2_; clear n0_ n1_ n2_; (try clear hb); (try clear hkp); (try clear ho0)))
     go_ret2
     exact ⟨_, by first | rfl | (simp [errW_none, errW_some] <;> rfl) | (simp only [← hji7]; first | rfl | (simp [errW_none, errW_some] <;> rfl)) | (simp [*, errW_none, errW_some] <;> rfl), by (with_reducible repeat (first | apply Kd.R_alloc | apply Kd.R_drewN | apply Kd.R_drew)); exact HO203.out, by repeat (first | (with_reducible first | exact HB.out | apply bal | apply pbN | apply bd1 | refine bst ?_ GE184.out) | exact HB.out)⟩
    ·rw [if_neg c9] at H
     exact absurd H (by simp)
   ·rw [if_neg c8] at H
    exact absurd H (by simp)
  ·rw [if_neg c6] at H
   exact absurd H (by simp)
 ·replace c3 := Bool.eq_false_iff.mpr c3
  subst c3
  have H1 : (some (([] : List Int), 1)) = some (r1, r2) := by rw [if_neg (show ¬ (false = true) by decide)] at H; exact H
  clear H
  have H := H1
  clear H1
  simp only [Option.some.injEq, Prod.mk.injEq] at H
  obtain ⟨rfl, rfl⟩ := H
  go_enter Try.func17, Try.ntmps17
  go_wp2_with (first | ((with_reducible refine gate_dst (N := 1) rfl ?_); refine box_event ?hg (N := 1) ?hd (cs := #[.int .i64 a0_0, .int .i64 a0_1, .int .i64 a0_2, .string a0_3, .int .i64 a0_4]) (t := 36) ?hr ?_; (case hd => rfl); (case hg => rfl); (case hr => first | (go_simp; done) | (go_simp; rfl)); intro gb184 hg w30 hbox hb; have n0_ := Azz.mk (below_step (by repeat (first | (with_reducible first | exact HB.out | apply bal | apply pbN | apply bd1) | exact HB.out)) hb); have n1_ := Azz.mk (hbox); have n2_ := Azz.mk ((by rw [hg]; exact (below_size (by repeat (first | (with_reducible first | exact HB.out | apply bal | apply pbN | apply bd1) | exact HB.out))) : w.heap.size ≤ gb184)); have n3_ := Azz.mk ((by rw [hg]; exact (below_size (by repeat (first | (with_reducible first | exact HB.out | apply bal | apply pbN | apply bd1) | exact HB.out))) : w.heap.size ≤ gb184)); clear HB; have HB := n0_; have BK184 := n1_; have GW184 := n2_; have GE184 := n3_; clear n0_ n1_ n2_ n3_; clear hb hbox hg; have hcz31_0 : World.cell? _ ⟨gb184, 0, none⟩ = some (.int .i64 a0_0) := (kcl BK184.out 0).trans rfl; have hcz31_1 : World.cell? _ ⟨gb184, 1, none⟩ = some (.int .i64 a0_1) := (kcl BK184.out 1).trans rfl; have hcz31_2 : World.cell? _ ⟨gb184, 2, none⟩ = some (.int .i64 a0_2) := (kcl BK184.out 2).trans rfl; have hcz31_3 : World.cell? _ ⟨gb184, 3, none⟩ = some (.string a0_3) := (kcl BK184.out 3).trans rfl; have hcz31_4 : World.cell? _ ⟨gb184, 4, none⟩ = some (.int .i64 a0_4) := (kcl BK184.out 4).trans rfl; have hfz31_0 := kfz BK184.out 0; have hfz31_1 := kfz BK184.out 1; have hfz31_2 := kfz BK184.out 2; have hfz31_3 := kfz BK184.out 3; have hfz31_4 := kfz BK184.out 4) | ((with_reducible refine gate_callee (f := 34) rfl ?_); refine goesL_ (some 6) rfl rfl Try.func34 (by kernel_rfl) rfl #[.agg #[.int .i64 a0_0, .int .i64 a0_1, .int .i64 a0_2, .string a0_3, .int .i64 a0_4]] rfl (by (try simp only [List.map_toArray, List.map_cons, List.map_nil]); first | done | rfl | (simp only [List.length_drop, List.length_take]; rfl)) ?_; (with_reducible refine (frame_rightData.calls a0_0 a0_1 a0_2 a0_3 a0_4 false _ A2.out).mono ?_); rintro e w32 ⟨rfl, hb⟩; refine ⟨_, rfl, ?_⟩; have n0_ := Azz.mk (blk_below (g := gb184) (o := .cells #[.int .i64 a0_0, .int .i64 a0_1, .int .i64 a0_2, .string a0_3, .int .i64 a0_4] 36 (0, 0)) (by (with_reducible repeat (first | refine kdN ?_ _ | refine kd1 ?_ | refine kal ?_ _)); exact BK184.out) hb); have n1_ := Azz.mk (below_step (by repeat (first | (with_reducible first | exact HB.out | apply bal | apply pbN | apply bd1 | refine bst ?_ GE184.out) | exact HB.out)) hb); clear BK184; clear HB; have BK184 := n0_; have HB := n1_; clear n0_ n1_; (try clear hb); (try clear hb2); (try clear hk); (try clear hi)))
  go_ret2
  exact ⟨_, by first | rfl | (simp [errW_none, errW_some] <;> rfl) | (simp [*, errW_none, errW_some] <;> rfl), by first | exact Kd.R_nil _ _ _ _ _ | exact Kd.N_nil _ _ _ _ _ | exact Kd.V_nil _ _ _ _ _ | exact Kd.Q_nil _ _ _ _ _ | exact Kd.S_nil _ _ _ _ _, by repeat (first | (with_reducible first | exact HB.out | apply bal | apply pbN | apply bd1 | refine bst ?_ GE184.out) | exact HB.out)⟩

end Go.Proofs.Ytgeheedfmdlefaa.PF
end

section
namespace Go.Proofs.Ytgeheedfmdlefaa.PF
open Go.RowKit Go.Proofs.YtgeheedfmdlefaaW.PrintWords Go.Proofs.YtgeheedfmdlefaaW.PrintLast Go.Proofs.YtgeheedfmdlefaaW.PrintMore Go.Proofs.Ytgeheedfmdlefaa.Conv
attribute [local go_sem] max2_int min2_int max_two min_two max_three min_three max_four min_four   -- for this text's walks alone
set_option linter.unusedVariables false
set_option linter.unusedSimpArgs false

/-! ### frame_Time: function 25 -/
def frame_Time.f (a0 : Int) : Option (Int) := some (8 * (mn (mx a0 64) 1518))
set_option maxHeartbeats 8000000 in
set_option maxRecDepth 100000 in
theorem frame_Time.calls (a0 : Int) (r : Int) (w : World) (h : frame_Time.f a0 = some r) :
  Calls Try.prog 25 #[.int .i64 a0] w fun e w' => e = .returned (.int .i64 r) ∧ Below w.heap.size w w' := by
 have HB := Azz.mk (Below.refl w.heap.size w)
 have H : (some (8 * (mn (mx a0 64) 1518))) = some r := h
 clear h
 obtain ⟨ji2, hji2⟩ : ∃ j_ : Int, (mx a0 64) = j_ := ⟨_, rfl⟩
 replace H : (some (8 * (mn (ji2) 1518))) = some r := by first | (rw [hji2] at H; exact H) | (simp only [hji2] at H ⊢; exact H)
 (try (have hji2l : 64 ≤ ji2 := by (rw [← hji2]; unfold mx; (repeat' split) <;> omega)))
 (try (have hji2m : 0 ≤ ji2 := by omega))
 have hji2_ : (if a0 < 64 then 64 else a0) = ji2 := hji2
 obtain ⟨ji3, hji3⟩ : ∃ j_ : Int, (mn (ji2) 1518) = j_ := ⟨_, rfl⟩
 replace H : (some (8 * (ji3))) = some r := by first | (rw [hji3] at H; exact H) | (simp only [hji3] at H ⊢; exact H)
 have hji3_ : (if 1518 < (ji2) then 1518 else (ji2)) = ji3 := hji3
 obtain rfl := Option.some.inj H
 go_enter Try.func25, Try.ntmps25
 go_wp2
 go_ret
 exact ⟨by first | rfl | (simp [errW_none, errW_some] <;> rfl) | (simp only [← hji2, ← hji3]; first | rfl | (simp [errW_none, errW_some] <;> rfl)) | (simp [*, errW_none, errW_some] <;> rfl), by repeat (first | (with_reducible first | exact HB.out | apply bal | apply pbN | apply bd1) | exact HB.out)⟩

end Go.Proofs.Ytgeheedfmdlefaa.PF
end

section
namespace Go.Proofs.Ytgeheedfmdlefaa.PF
open Go.RowKit Go.Proofs.YtgeheedfmdlefaaW.PrintWords Go.Proofs.YtgeheedfmdlefaaW.PrintLast Go.Proofs.YtgeheedfmdlefaaW.PrintMore Go.Proofs.Ytgeheedfmdlefaa.Conv
attribute [local go_sem] max2_int min2_int max_two min_two max_three min_three max_four min_four   -- for this text's walks alone
set_option linter.unusedVariables false
set_option linter.unusedSimpArgs false

/-! ### lw_fixed: function 11 -/
def lw_fixed.f (k : Nat)  : Option (Bool) := (frame_Control.f k 1 2 7 5 0).bind fun bt230 => ((frame_ReadControl.f k bt230.1).bind fun bt234 => ((frame_Data.f k 1 0 0 (⟨#[]⟩ : ByteArray) 63).bind fun bt241 => ((frame_Data.f k 2 3 4 (⟨#[97, 98]⟩ : ByteArray) 64).bind fun bt245 => ((frame_ReadData.f k bt245.1).bind fun bt249 => ((some (List.replicate 64 0 : List Int)).bind fun y256 => (if 0 < (y256.length : Int) then ((frame_ReadData.f k (y256.set (0 : Int).toNat 8)).bind fun bt260 => ((frame_Sum.f k (([49, 50, 51, 52, 53, 54, 55, 56, 57] : List Int))).bind fun t271 => (if t271 = 3421780262 then (if (bt230.1.length : Int) = 34 then (if bt230.2 = 0 then (if bt234.2.2.1 = 7 then (if bt234.2.2.2.2.2 = 0 then (if bt241.2 = 1 then (if (bt245.1.length : Int) = 64 then (if bt245.2 = 0 then (if bt249.2.2.2.1.toList = ([97, 98] : List UInt8) then (if bt249.2.2.2.2.2 = 0 then (if bt260.2.2.2.2.2 = 8 then ((frame_Which.f k bt230.1).bind fun t272 => (if t272 = 1 then ((frame_Which.f k bt245.1).bind fun t273 => (if t273 = 2 then ((frame_Time.f 10).bind fun t274 => (some (t274 == 512))) else (none))) else (none))) else (none)) else (none)) else (none)) else (none)) else (none)) else (none)) else (none)) else (none)) else (none)) else (none)) else (none)))) else (none)))))))
theorem lw_fixed.mono : ∀ k, LeO (lw_fixed.f k ) (lw_fixed.f (k + 1) ) := by
 intro  k
 unfold lw_fixed.f
 repeat' first
   | (with_reducible exact frame_Control.mono _ _ _ _ _ _)
   | (with_reducible exact frame_Data.mono _ _ _ _ _ _)
   | (with_reducible exact frame_ReadControl.mono _ _)
   | (with_reducible exact frame_ReadData.mono _ _)
   | (with_reducible exact frame_Sum.mono _ _)
   | (with_reducible exact frame_Which.mono _ _)
   | (with_reducible exact LeO.refl _)
   | (with_reducible exact LeO.none _)
   | (with_reducible refine LeO.ite ?_ ?_)
   | (with_reducible refine LeO.bind ?_ (fun _ => ?_))
   | exact frame_Control.mono _ _ _ _ _ _
   | exact frame_Data.mono _ _ _ _ _ _
   | exact frame_ReadControl.mono _ _
   | exact frame_ReadData.mono _ _
   | exact frame_Sum.mono _ _
   | exact frame_Which.mono _ _
   | exact LeO.none _
   | refine LeO.ite ?_ ?_
   | refine LeO.bind ?_ (fun _ => ?_)
set_option maxHeartbeats 8000000 in
set_option maxRecDepth 100000 in
theorem lw_fixed.calls (k : Nat)  (r : Bool) (w : World) (h : lw_fixed.f k  = some r) :
  Calls Try.prog 11 #[] w fun e w' => e = .returned (.bool r) ∧ Below w.heap.size w w' := by
 have hu24 := Try.underlying24
 have hu36 := Try.underlying36
 have HB := Azz.mk (Below.refl w.heap.size w)
 have H : ((frame_Control.f k 1 2 7 5 0).bind fun bt230 => ((frame_ReadControl.f k bt230.1).bind fun bt234 => ((frame_Data.f k 1 0 0 (⟨#[]⟩ : ByteArray) 63).bind fun bt241 => ((frame_Data.f k 2 3 4 (⟨#[97, 98]⟩ : ByteArray) 64).bind fun bt245 => ((frame_ReadData.f k bt245.1).bind fun bt249 => ((some (List.replicate 64 0 : List Int)).bind fun y256 => (if 0 < (y256.length : Int) then ((frame_ReadData.f k (y256.set (0 : Int).toNat 8)).bind fun bt260 => ((frame_Sum.f k (([49, 50, 51, 52, 53, 54, 55, 56, 57] : List Int))).bind fun t271 => (if t271 = 3421780262 then (if (bt230.1.length : Int) = 34 then (if bt230.2 = 0 then (if bt234.2.2.1 = 7 then (if bt234.2.2.2.2.2 = 0 then (if bt241.2 = 1 then (if (bt245.1.length : Int) = 64 then (if bt245.2 = 0 then (if bt249.2.2.2.1.toList = ([97, 98] : List UInt8) then (if bt249.2.2.2.2.2 = 0 then (if bt260.2.2.2.2.2 = 8 then ((frame_Which.f k bt230.1).bind fun t272 => (if t272 = 1 then ((frame_Which.f k bt245.1).bind fun t273 => (if t273 = 2 then ((frame_Time.f 10).bind fun t274 => (some (t274 == 512))) else (none))) else (none))) else (none)) else (none)) else (none)) else (none)) else (none)) else (none)) else (none)) else (none)) else (none)) else (none)) else (none)))) else (none)))))))) = some r := h
 clear h
 replace H := Option.bind_eq_some_iff.mp H
 obtain ⟨⟨t230, t233⟩, A10, H⟩ := H
 replace H : ((frame_ReadControl.f k t230).bind fun bt234 => ((frame_Data.f k 1 0 0 (⟨#[]⟩ : ByteArray) 63).bind fun bt241 => ((frame_Data.f k 2 3 4 (⟨#[97, 98]⟩ : ByteArray) 64).bind fun bt245 => ((frame_ReadData.f k bt245.1).bind fun bt249 => ((some (List.replicate 64 0 : List Int)).bind fun y256 => (if 0 < (y256.length : Int) then ((frame_ReadData.f k (y256.set (0 : Int).toNat 8)).bind fun bt260 => ((frame_Sum.f k (([49, 50, 51, 52, 53, 54, 55, 56, 57] : List Int))).bind fun t271 => (if t271 = 3421780262 then (if (t230.length : Int) = 34 then (if t233 = 0 then (if bt234.2.2.1 = 7 then (if bt234.2.2.2.2.2 = 0 then (if bt241.2 = 1 then (if (bt245.1.length : Int) = 64 then (if bt245.2 = 0 then (if bt249.2.2.2.1.toList = ([97, 98] : List UInt8) then (if bt249.2.2.2.2.2 = 0 then (if bt260.2.2.2.2.2 = 8 then ((frame_Which.f k t230).bind fun t272 => (if t272 = 1 then ((frame_Which.f k bt245.1).bind fun t273 => (if t273 = 2 then ((frame_Time.f 10).bind fun t274 => (some (t274 == 512))) else (none))) else (none))) else (none)) else (none)) else (none)) else (none)) else (none)) else (none)) else (none)) else (none)) else (none)) else (none)) else (none)))) else (none))))))) = some r := H
 have A1 := Azz.mk A10
 clear A10
 replace H := Option.bind_eq_some_iff.mp H
 obtain ⟨⟨t234, t235, t236, t237, t238, t239⟩, A20, H⟩ := H
 replace H : ((frame_Data.f k 1 0 0 (⟨#[]⟩ : ByteArray) 63).bind fun bt241 => ((frame_Data.f k 2 3 4 (⟨#[97, 98]⟩ : ByteArray) 64).bind fun bt245 => ((frame_ReadData.f k bt245.1).bind fun bt249 => ((some (List.replicate 64 0 : List Int)).bind fun y256 => (if 0 < (y256.length : Int) then ((frame_ReadData.f k (y256.set (0 : Int).toNat 8)).bind fun bt260 => ((frame_Sum.f k (([49, 50, 51, 52, 53, 54, 55, 56, 57] : List Int))).bind fun t271 => (if t271 = 3421780262 then (if (t230.length : Int) = 34 then (if t233 = 0 then (if t236 = 7 then (if t239 = 0 then (if bt241.2 = 1 then (if (bt245.1.length : Int) = 64 then (if bt245.2 = 0 then (if bt249.2.2.2.1.toList = ([97, 98] : List UInt8) then (if bt249.2.2.2.2.2 = 0 then (if bt260.2.2.2.2.2 = 8 then ((frame_Which.f k t230).bind fun t272 => (if t272 = 1 then ((frame_Which.f k bt245.1).bind fun t273 => (if t273 = 2 then ((frame_Time.f 10).bind fun t274 => (some (t274 == 512))) else (none))) else (none))) else (none)) else (none)) else (none)) else (none)) else (none)) else (none)) else (none)) else (none)) else (none)) else (none)) else (none)))) else (none)))))) = some r := H
 have A2 := Azz.mk A20
 clear A20
 replace H := Option.bind_eq_some_iff.mp H
 obtain ⟨⟨t241, t244⟩, A30, H⟩ := H
 replace H : ((frame_Data.f k 2 3 4 (⟨#[97, 98]⟩ : ByteArray) 64).bind fun bt245 => ((frame_ReadData.f k bt245.1).bind fun bt249 => ((some (List.replicate 64 0 : List Int)).bind fun y256 => (if 0 < (y256.length : Int) then ((frame_ReadData.f k (y256.set (0 : Int).toNat 8)).bind fun bt260 => ((frame_Sum.f k (([49, 50, 51, 52, 53, 54, 55, 56, 57] : List Int))).bind fun t271 => (if t271 = 3421780262 then (if (t230.length : Int) = 34 then (if t233 = 0 then (if t236 = 7 then (if t239 = 0 then (if t244 = 1 then (if (bt245.1.length : Int) = 64 then (if bt245.2 = 0 then (if bt249.2.2.2.1.toList = ([97, 98] : List UInt8) then (if bt249.2.2.2.2.2 = 0 then (if bt260.2.2.2.2.2 = 8 then ((frame_Which.f k t230).bind fun t272 => (if t272 = 1 then ((frame_Which.f k bt245.1).bind fun t273 => (if t273 = 2 then ((frame_Time.f 10).bind fun t274 => (some (t274 == 512))) else (none))) else (none))) else (none)) else (none)) else (none)) else (none)) else (none)) else (none)) else (none)) else (none)) else (none)) else (none)) else (none)))) else (none))))) = some r := H
 have A3 := Azz.mk A30
 clear A30
 replace H := Option.bind_eq_some_iff.mp H
 obtain ⟨⟨t245, t248⟩, A40, H⟩ := H
 replace H : ((frame_ReadData.f k t245).bind fun bt249 => ((some (List.replicate 64 0 : List Int)).bind fun y256 => (if 0 < (y256.length : Int) then ((frame_ReadData.f k (y256.set (0 : Int).toNat 8)).bind fun bt260 => ((frame_Sum.f k (([49, 50, 51, 52, 53, 54, 55, 56, 57] : List Int))).bind fun t271 => (if t271 = 3421780262 then (if (t230.length : Int) = 34 then (if t233 = 0 then (if t236 = 7 then (if t239 = 0 then (if t244 = 1 then (if (t245.length : Int) = 64 then (if t248 = 0 then (if bt249.2.2.2.1.toList = ([97, 98] : List UInt8) then (if bt249.2.2.2.2.2 = 0 then (if bt260.2.2.2.2.2 = 8 then ((frame_Which.f k t230).bind fun t272 => (if t272 = 1 then ((frame_Which.f k t245).bind fun t273 => (if t273 = 2 then ((frame_Time.f 10).bind fun t274 => (some (t274 == 512))) else (none))) else (none))) else (none)) else (none)) else (none)) else (none)) else (none)) else (none)) else (none)) else (none)) else (none)) else (none)) else (none)))) else (none)))) = some r := H
 have A4 := Azz.mk A40
 clear A40
 replace H := Option.bind_eq_some_iff.mp H
 obtain ⟨⟨t249, t250, t251, t252, t253, t254⟩, A50, H⟩ := H
 replace H : ((some (List.replicate 64 0 : List Int)).bind fun y256 => (if 0 < (y256.length : Int) then ((frame_ReadData.f k (y256.set (0 : Int).toNat 8)).bind fun bt260 => ((frame_Sum.f k (([49, 50, 51, 52, 53, 54, 55, 56, 57] : List Int))).bind fun t271 => (if t271 = 3421780262 then (if (t230.length : Int) = 34 then (if t233 = 0 then (if t236 = 7 then (if t239 = 0 then (if t244 = 1 then (if (t245.length : Int) = 64 then (if t248 = 0 then (if t252.toList = ([97, 98] : List UInt8) then (if t254 = 0 then (if bt260.2.2.2.2.2 = 8 then ((frame_Which.f k t230).bind fun t272 => (if t272 = 1 then ((frame_Which.f k t245).bind fun t273 => (if t273 = 2 then ((frame_Time.f 10).bind fun t274 => (some (t274 == 512))) else (none))) else (none))) else (none)) else (none)) else (none)) else (none)) else (none)) else (none)) else (none)) else (none)) else (none)) else (none)) else (none)))) else (none))) = some r := H
 have A5 := Azz.mk A50
 clear A50
 obtain ⟨y256, hy256⟩ : ∃ y_ : List Int, y_ = (List.replicate 64 0) := ⟨_, rfl⟩
 replace H : (if 0 < (y256.length : Int) then ((frame_ReadData.f k (y256.set (0 : Int).toNat 8)).bind fun bt260 => ((frame_Sum.f k (([49, 50, 51, 52, 53, 54, 55, 56, 57] : List Int))).bind fun t271 => (if t271 = 3421780262 then (if (t230.length : Int) = 34 then (if t233 = 0 then (if t236 = 7 then (if t239 = 0 then (if t244 = 1 then (if (t245.length : Int) = 64 then (if t248 = 0 then (if t252.toList = ([97, 98] : List UInt8) then (if t254 = 0 then (if bt260.2.2.2.2.2 = 8 then ((frame_Which.f k t230).bind fun t272 => (if t272 = 1 then ((frame_Which.f k t245).bind fun t273 => (if t273 = 2 then ((frame_Time.f 10).bind fun t274 => (some (t274 == 512))) else (none))) else (none))) else (none)) else (none)) else (none)) else (none)) else (none)) else (none)) else (none)) else (none)) else (none)) else (none)) else (none)))) else (none)) = some r := by first | (rw [hy256]; with_reducible exact H) | (have H2_ := (Option.bind_some _ _).symm.trans H; rw [hy256]; with_reducible exact H2_) | (have H2_ := (Option.bind_some _ _).symm.trans H; with_reducible exact H2_) | with_reducible exact H | (rw [hy256]; exact H) | exact H
 have Ny256 := Azz.mk hy256
 clear hy256
 by_cases c6 : 0 < (y256.length : Int)
 ·rw [if_pos c6] at H
  have c6b0 : decide (0 < (y256.length : Int)) = true := decide_eq_true c6
  have c6b1 : decide (0 < y256.length) = true := decide_eq_true (by omega)
  clear c6
  obtain ⟨y259, hy259⟩ : ∃ y_ : List Int, y_ = (y256.set (0 : Int).toNat 8) := ⟨_, rfl⟩
  replace H : ((frame_ReadData.f k y259).bind fun bt260 => ((frame_Sum.f k (([49, 50, 51, 52, 53, 54, 55, 56, 57] : List Int))).bind fun t271 => (if t271 = 3421780262 then (if (t230.length : Int) = 34 then (if t233 = 0 then (if t236 = 7 then (if t239 = 0 then (if t244 = 1 then (if (t245.length : Int) = 64 then (if t248 = 0 then (if t252.toList = ([97, 98] : List UInt8) then (if t254 = 0 then (if bt260.2.2.2.2.2 = 8 then ((frame_Which.f k t230).bind fun t272 => (if t272 = 1 then ((frame_Which.f k t245).bind fun t273 => (if t273 = 2 then ((frame_Time.f 10).bind fun t274 => (some (t274 == 512))) else (none))) else (none))) else (none)) else (none)) else (none)) else (none)) else (none)) else (none)) else (none)) else (none)) else (none)) else (none)) else (none)))) = some r := by first | (rw [hy259]; with_reducible exact H) | (have H2_ := (Option.bind_some _ _).symm.trans H; rw [hy259]; with_reducible exact H2_) | (have H2_ := (Option.bind_some _ _).symm.trans H; with_reducible exact H2_) | with_reducible exact H | (rw [hy259]; exact H) | exact H
  have Ny259 := Azz.mk hy259
  clear hy259
  replace H := Option.bind_eq_some_iff.mp H
  obtain ⟨⟨t260, t261, t262, t263, t264, t265⟩, A80, H⟩ := H
  replace H : ((frame_Sum.f k (([49, 50, 51, 52, 53, 54, 55, 56, 57] : List Int))).bind fun t271 => (if t271 = 3421780262 then (if (t230.length : Int) = 34 then (if t233 = 0 then (if t236 = 7 then (if t239 = 0 then (if t244 = 1 then (if (t245.length : Int) = 64 then (if t248 = 0 then (if t252.toList = ([97, 98] : List UInt8) then (if t254 = 0 then (if t265 = 8 then ((frame_Which.f k t230).bind fun t272 => (if t272 = 1 then ((frame_Which.f k t245).bind fun t273 => (if t273 = 2 then ((frame_Time.f 10).bind fun t274 => (some (t274 == 512))) else (none))) else (none))) else (none)) else (none)) else (none)) else (none)) else (none)) else (none)) else (none)) else (none)) else (none)) else (none)) else (none))) = some r := H
  have A8 := Azz.mk A80
  clear A80
  obtain ⟨y267, hy267⟩ : ∃ y_ : List Int, y_ = (([49, 50, 51, 52, 53, 54, 55, 56, 57] : List Int)) := ⟨_, rfl⟩
  replace H : ((frame_Sum.f k y267).bind fun t271 => (if t271 = 3421780262 then (if (t230.length : Int) = 34 then (if t233 = 0 then (if t236 = 7 then (if t239 = 0 then (if t244 = 1 then (if (t245.length : Int) = 64 then (if t248 = 0 then (if t252.toList = ([97, 98] : List UInt8) then (if t254 = 0 then (if t265 = 8 then ((frame_Which.f k t230).bind fun t272 => (if t272 = 1 then ((frame_Which.f k t245).bind fun t273 => (if t273 = 2 then ((frame_Time.f 10).bind fun t274 => (some (t274 == 512))) else (none))) else (none))) else (none)) else (none)) else (none)) else (none)) else (none)) else (none)) else (none)) else (none)) else (none)) else (none)) else (none))) = some r := by first | (rw [hy267]; with_reducible exact H) | (have H2_ := (Option.bind_some _ _).symm.trans H; rw [hy267]; with_reducible exact H2_) | (have H2_ := (Option.bind_some _ _).symm.trans H; with_reducible exact H2_) | with_reducible exact H | (rw [hy267]; exact H) | exact H
  have Ny267 := Azz.mk hy267
  clear hy267
  replace H := Option.bind_eq_some_iff.mp H
  obtain ⟨t271, A90, H⟩ := H
  replace H : (if t271 = 3421780262 then (if (t230.length : Int) = 34 then (if t233 = 0 then (if t236 = 7 then (if t239 = 0 then (if t244 = 1 then (if (t245.length : Int) = 64 then (if t248 = 0 then (if t252.toList = ([97, 98] : List UInt8) then (if t254 = 0 then (if t265 = 8 then ((frame_Which.f k t230).bind fun t272 => (if t272 = 1 then ((frame_Which.f k t245).bind fun t273 => (if t273 = 2 then ((frame_Time.f 10).bind fun t274 => (some (t274 == 512))) else (none))) else (none))) else (none)) else (none)) else (none)) else (none)) else (none)) else (none)) else (none)) else (none)) else (none)) else (none)) else (none)) = some r := H
  have A9 := Azz.mk A90
  clear A90
  by_cases c10 : t271 = 3421780262
  ·rw [if_pos c10] at H
   have c10b0 : (t271 == 3421780262) = true := beq_iff_eq.mpr c10
   have c10b1 : (t271 != 3421780262) = false := bne_eq_false_iff_eq.mpr c10
   clear c10
   by_cases c11 : (t230.length : Int) = 34
   ·rw [if_pos c11] at H
    have c11b0 : ((t230.length : Int) == 34) = true := beq_iff_eq.mpr c11
    have c11b1 : ((t230.length : Int) != 34) = false := bne_eq_false_iff_eq.mpr c11
    clear c11
    by_cases c12 : t233 = 0
    ·rw [if_pos c12] at H
     have c12b0 : (t233 == 0) = true := beq_iff_eq.mpr c12
     have c12b1 : (t233 != 0) = false := bne_eq_false_iff_eq.mpr c12
     clear c12
     by_cases c13 : t236 = 7
     ·rw [if_pos c13] at H
      have c13b0 : (t236 == 7) = true := beq_iff_eq.mpr c13
      have c13b1 : (t236 != 7) = false := bne_eq_false_iff_eq.mpr c13
      clear c13
      by_cases c14 : t239 = 0
      ·rw [if_pos c14] at H
       have c14b0 : (t239 == 0) = true := beq_iff_eq.mpr c14
       have c14b1 : (t239 != 0) = false := bne_eq_false_iff_eq.mpr c14
       clear c14
       by_cases c15 : t244 = 1
       ·rw [if_pos c15] at H
        have c15b0 : (t244 == 1) = true := beq_iff_eq.mpr c15
        have c15b1 : (t244 != 1) = false := bne_eq_false_iff_eq.mpr c15
        clear c15
        by_cases c16 : (t245.length : Int) = 64
        ·rw [if_pos c16] at H
         have c16b0 : ((t245.length : Int) == 64) = true := beq_iff_eq.mpr c16
         have c16b1 : ((t245.length : Int) != 64) = false := bne_eq_false_iff_eq.mpr c16
         clear c16
         by_cases c17 : t248 = 0
         ·rw [if_pos c17] at H
          have c17b0 : (t248 == 0) = true := beq_iff_eq.mpr c17
          have c17b1 : (t248 != 0) = false := bne_eq_false_iff_eq.mpr c17
          clear c17
          by_cases c18 : t252.toList = ([97, 98] : List UInt8)
          ·rw [if_pos c18] at H
           have c18b0 : (t252.toList == ([97, 98] : List UInt8)) = true := beq_iff_eq.mpr c18
           have c18b1 : (t252.toList != ([97, 98] : List UInt8)) = false := bne_eq_false_iff_eq.mpr c18
           clear c18
           by_cases c19 : t254 = 0
           ·rw [if_pos c19] at H
            have c19b0 : (t254 == 0) = true := beq_iff_eq.mpr c19
            have c19b1 : (t254 != 0) = false := bne_eq_false_iff_eq.mpr c19
            clear c19
            by_cases c20 : t265 = 8
            ·rw [if_pos c20] at H
             have c20b0 : (t265 == 8) = true := beq_iff_eq.mpr c20
             have c20b1 : (t265 != 8) = false := bne_eq_false_iff_eq.mpr c20
             clear c20
             replace H := Option.bind_eq_some_iff.mp H
             obtain ⟨t272, A210, H⟩ := H
             replace H : (if t272 = 1 then ((frame_Which.f k t245).bind fun t273 => (if t273 = 2 then ((frame_Time.f 10).bind fun t274 => (some (t274 == 512))) else (none))) else (none)) = some r := H
             have A21 := Azz.mk A210
             clear A210
             by_cases c22 : t272 = 1
             ·rw [if_pos c22] at H
              have c22b0 : (t272 == 1) = true := beq_iff_eq.mpr c22
              have c22b1 : (t272 != 1) = false := bne_eq_false_iff_eq.mpr c22
              clear c22
              replace H := Option.bind_eq_some_iff.mp H
              obtain ⟨t273, A230, H⟩ := H
              replace H : (if t273 = 2 then ((frame_Time.f 10).bind fun t274 => (some (t274 == 512))) else (none)) = some r := H
              have A23 := Azz.mk A230
              clear A230
              by_cases c24 : t273 = 2
              ·rw [if_pos c24] at H
               have c24b0 : (t273 == 2) = true := beq_iff_eq.mpr c24
               have c24b1 : (t273 != 2) = false := bne_eq_false_iff_eq.mpr c24
               clear c24
               replace H := Option.bind_eq_some_iff.mp H
               obtain ⟨t274, A250, H⟩ := H
               replace H : (some (t274 == 512)) = some r := H
               have A25 := Azz.mk A250
               clear A250
               obtain rfl := Option.some.inj H
               go_enter Try.func11, Try.ntmps11
               go_wp2_with (first | ((with_reducible refine gate_callee (f := 12) rfl ?_); refine goesL_ (some 16) rfl rfl Try.func12 (by kernel_rfl) rfl #[.agg #[.int .i64 1, .int .i64 2, .int .i64 7, .int .u32 5, .int .i64 0]] rfl (by (try simp only [List.map_toArray, List.map_cons, List.map_nil]); first | done | rfl | (simp only [List.length_drop, List.length_take]; rfl)) ?_; (with_reducible refine (frame_Control.calls k 1 2 7 5 0 t230 t233 _ A1.out).mono ?_); rintro e w26 ⟨v231, rfl, ho0, hb⟩; refine ⟨_, rfl, ?_⟩; have n0_ := Azz.mk (Kd.R_lower ho0 (below_size (by repeat (first | (with_reducible first | exact HB.out | apply bal | apply pbN | apply bd1) | exact HB.out)))); have n1_ := Azz.mk (below_step (by repeat (first | (with_reducible first | exact HB.out | apply bal | apply pbN | apply bd1) | exact HB.out)) hb); clear HB; have HO232 := n0_; have HB := n1_; clear n0_ n1_; (try clear hb); (try clear hb2); (try clear hk); (try clear hi); (try clear ho0); obtain ⟨Ao27, co27, eo27⟩ := Kd.R_slice HO232.out; subst eo27) | ((with_reducible refine gate_callee (f := 14) rfl ?_); refine goesL_ (some 21) rfl rfl Try.func14 (by kernel_rfl) rfl #[.slice Ao27 t230.length co27] rfl (by (try simp only [List.map_toArray, List.map_cons, List.map_nil]); first | done | rfl | (simp only [List.length_drop, List.length_take]; rfl)) ?_; (with_reducible refine (frame_ReadControl.calls k _ _ t230 t234 t235 t236 t237 t238 t239 _ ?side1 ?side2 A2.out).mono ?_); (case side1 => repeat (first | exact (Kd.R_reads' HO232.out).2.2 | (with_reducible refine Kd.C_alloc ?_ _) | (with_reducible refine Kd.C_drewN ?_ _) | (with_reducible refine Kd.C_drew ?_))); (case side2 => exact (Kd.R_reads' HO232.out).2.1); rintro e w28 ⟨rfl, hb⟩; refine ⟨_, rfl, ?_⟩; have n0_ := Azz.mk (Kd.R_below (by (with_reducible repeat (first | apply Kd.R_alloc | apply Kd.R_drewN | apply Kd.R_drew)); exact HO232.out) hb); have n1_ := Azz.mk (below_step (by repeat (first | (with_reducible first | exact HB.out | apply bal | apply pbN | apply bd1) | exact HB.out)) hb); clear HO232; clear HB; have HO232 := n0_; have HB := n1_; clear n0_ n1_; (try clear hb); (try clear hb2); (try clear hk); (try clear hi)) | ((with_reducible refine gate_dst (N := 3) rfl ?_); (try (refine gate_guard (by rfl) ?_; dsimp only)); refine box_event ?hg (N := 3) ?hd (cs := #[.int .i64 0, .int .i64 0, .int .i64 0, .int .u32 0, .int .i64 0]) (t := 24) ?hr ?_; (case hd => rfl); (case hg => rfl); (case hr => first | (go_simp; done) | (go_simp; rfl)); intro gb240 hg w29 hbox hb; have n0_ := Azz.mk (Kd.R_below (by (with_reducible repeat (first | apply Kd.R_alloc | apply Kd.R_drewN | apply Kd.R_drew)); exact HO232.out) hb); have n1_ := Azz.mk (below_step (by repeat (first | (with_reducible first | exact HB.out | apply bal | apply pbN | apply bd1) | exact HB.out)) hb); have n2_ := Azz.mk (hbox); have n3_ := Azz.mk ((by rw [hg]; exact (below_size (by repeat (first | (with_reducible first | exact HB.out | apply bal | apply pbN | apply bd1) | exact HB.out))) : w.heap.size ≤ gb240)); have n4_ := Azz.mk ((by rw [hg]; exact (below_size (by repeat (first | (with_reducible first | exact HB.out | apply bal | apply pbN | apply bd1) | exact HB.out))) : w.heap.size ≤ gb240)); clear HO232; clear HB; have HO232 := n0_; have HB := n1_; have BK240 := n2_; have GW240 := n3_; have GE240 := n4_; clear n0_ n1_ n2_ n3_ n4_; clear hb hbox hg; have hcz30_0 : World.cell? _ ⟨gb240, 0, none⟩ = some (.int .i64 0) := (kcl BK240.out 0).trans rfl; have hcz30_1 : World.cell? _ ⟨gb240, 1, none⟩ = some (.int .i64 0) := (kcl BK240.out 1).trans rfl; have hcz30_2 : World.cell? _ ⟨gb240, 2, none⟩ = some (.int .i64 0) := (kcl BK240.out 2).trans rfl; have hcz30_3 : World.cell? _ ⟨gb240, 3, none⟩ = some (.int .u32 0) := (kcl BK240.out 3).trans rfl; have hcz30_4 : World.cell? _ ⟨gb240, 4, none⟩ = some (.int .i64 0) := (kcl BK240.out 4).trans rfl; have hfz30_0 := kfz BK240.out 0; have hfz30_1 := kfz BK240.out 1; have hfz30_2 := kfz BK240.out 2; have hfz30_3 := kfz BK240.out 3; have hfz30_4 := kfz BK240.out 4) | ((with_reducible refine gate_callee (f := 17) rfl ?_); refine goesL_ (some 26) rfl rfl Try.func17 (by kernel_rfl) rfl #[.agg #[.int .i64 1, .int .i64 0, .int .i64 0, .string (⟨#[]⟩ : ByteArray), .int .i64 63]] rfl (by (try simp only [List.map_toArray, List.map_cons, List.map_nil]); first | done | rfl | (simp only [List.length_drop, List.length_take]; rfl)) ?_; (with_reducible refine (frame_Data.calls k 1 0 0 (⟨#[]⟩ : ByteArray) 63 t241 t244 _ A3.out).mono ?_); rintro e w31 ⟨v242, rfl, ho0, hb⟩; refine ⟨_, rfl, ?_⟩; have n0_ := Azz.mk (Kd.R_elder' (by (with_reducible repeat (first | apply Kd.R_alloc | apply Kd.R_drewN | apply Kd.R_drew)); exact (Kd.R_mono (Kd.R_far (p := ⟨gb240, 4, none⟩) (Kd.R_far (p := ⟨gb240, 3, none⟩) (Kd.R_far (p := ⟨gb240, 2, none⟩) (Kd.R_far (p := ⟨gb240, 1, none⟩) (Kd.R_far (p := ⟨gb240, 0, none⟩) (Kd.R_types HO232.out BK240.out (by decide)) (fun _ hk => hk.2) (.int .i64 t234)) (fun _ hk => hk.2) (.int .i64 t235)) (fun _ hk => hk.2) (.int .i64 t236)) (fun _ hk => hk.2) (.int .u32 t237)) (fun _ hk => hk.2) (.int .i64 t238)) (fun _ h_ => h_.1))) (Kd.R_base ho0) hb); have n1_ := Azz.mk (Kd.R_lower (Kd.R_new' ho0 (Kd.R_lt (by (with_reducible repeat (first | apply Kd.R_alloc | apply Kd.R_drewN | apply Kd.R_drew)); exact (Kd.R_mono (Kd.R_far (p := ⟨gb240, 4, none⟩) (Kd.R_far (p := ⟨gb240, 3, none⟩) (Kd.R_far (p := ⟨gb240, 2, none⟩) (Kd.R_far (p := ⟨gb240, 1, none⟩) (Kd.R_far (p := ⟨gb240, 0, none⟩) (Kd.R_types HO232.out BK240.out (by decide)) (fun _ hk => hk.2) (.int .i64 t234)) (fun _ hk => hk.2) (.int .i64 t235)) (fun _ hk => hk.2) (.int .i64 t236)) (fun _ hk => hk.2) (.int .u32 t237)) (fun _ hk => hk.2) (.int .i64 t238)) (fun _ h_ => h_.1))))) (below_size (by repeat (first | (with_reducible first | exact HB.out | apply bal | apply pbN | apply bd1 | refine bst ?_ GE240.out) | exact HB.out)))); have n2_ := Azz.mk (blk_below (g := gb240) (o := .cells #[.int .i64 t234, .int .i64 t235, .int .i64 t236, .int .u32 t237, .int .i64 t238] 24 (0, 0)) (by (with_reducible repeat (first | refine kdN ?_ _ | refine kd1 ?_ | refine kal ?_ _)); refine blk_put (cs := #[.int .i64 t234, .int .i64 t235, .int .i64 t236, .int .u32 t237, .int .i64 0]) ?_ 4 _ rfl; (with_reducible repeat (first | refine kdN ?_ _ | refine kd1 ?_ | refine kal ?_ _)); refine blk_put (cs := #[.int .i64 t234, .int .i64 t235, .int .i64 t236, .int .u32 0, .int .i64 0]) ?_ 3 _ rfl; (with_reducible repeat (first | refine kdN ?_ _ | refine kd1 ?_ | refine kal ?_ _)); refine blk_put (cs := #[.int .i64 t234, .int .i64 t235, .int .i64 0, .int .u32 0, .int .i64 0]) ?_ 2 _ rfl; (with_reducible repeat (first | refine kdN ?_ _ | refine kd1 ?_ | refine kal ?_ _)); refine blk_put (cs := #[.int .i64 t234, .int .i64 0, .int .i64 0, .int .u32 0, .int .i64 0]) ?_ 1 _ rfl; (with_reducible repeat (first | refine kdN ?_ _ | refine kd1 ?_ | refine kal ?_ _)); refine blk_put (cs := #[.int .i64 0, .int .i64 0, .int .i64 0, .int .u32 0, .int .i64 0]) ?_ 0 _ rfl; (with_reducible repeat (first | refine kdN ?_ _ | refine kd1 ?_ | refine kal ?_ _)); exact BK240.out) hb); have n3_ := Azz.mk (below_step (by repeat (first | (with_reducible first | exact HB.out | apply bal | apply pbN | apply bd1 | refine bst ?_ GE240.out) | exact HB.out)) hb); clear HO232; clear BK240; clear HB; have HO232 := n0_; have HO243 := n1_; have BK240 := n2_; have HB := n3_; clear n0_ n1_ n2_ n3_; (try clear hb); (try clear hb2); (try clear hk); (try clear hi); (try clear ho0)) | ((with_reducible refine gate_callee (f := 17) rfl ?_); refine goesL_ (some 31) rfl rfl Try.func17 (by kernel_rfl) rfl #[.agg #[.int .i64 2, .int .i64 3, .int .i64 4, .string (⟨#[97, 98]⟩ : ByteArray), .int .i64 64]] rfl (by (try simp only [List.map_toArray, List.map_cons, List.map_nil]); first | done | rfl | (simp only [List.length_drop, List.length_take]; rfl)) ?_; (with_reducible refine (frame_Data.calls k 2 3 4 (⟨#[97, 98]⟩ : ByteArray) 64 t245 t248 _ A4.out).mono ?_); rintro e w32 ⟨v246, rfl, ho0, hb⟩; refine ⟨_, rfl, ?_⟩; have n0_ := Azz.mk (Kd.R_elder' (by (with_reducible repeat (first | apply Kd.R_alloc | apply Kd.R_drewN | apply Kd.R_drew)); exact HO232.out) (Kd.R_base ho0) hb); have n1_ := Azz.mk (Kd.R_elder' (by (with_reducible repeat (first | apply Kd.R_alloc | apply Kd.R_drewN | apply Kd.R_drew)); exact HO243.out) (Kd.R_base ho0) hb); have n2_ := Azz.mk (Kd.R_lower (Kd.R_new' (Kd.R_new' ho0 (Kd.R_lt (by (with_reducible repeat (first | apply Kd.R_alloc | apply Kd.R_drewN | apply Kd.R_drew)); exact HO232.out))) (Kd.R_lt (by (with_reducible repeat (first | apply Kd.R_alloc | apply Kd.R_drewN | apply Kd.R_drew)); exact HO243.out))) (below_size (by repeat (first | (with_reducible first | exact HB.out | apply bal | apply pbN | apply bd1 | refine bst ?_ GE240.out) | exact HB.out)))); have n3_ := Azz.mk (blk_below (g := gb240) (o := .cells #[.int .i64 t234, .int .i64 t235, .int .i64 t236, .int .u32 t237, .int .i64 t238] 24 (0, 0)) (by (with_reducible repeat (first | refine kdN ?_ _ | refine kd1 ?_ | refine kal ?_ _)); exact BK240.out) hb); have n4_ := Azz.mk (below_step (by repeat (first | (with_reducible first | exact HB.out | apply bal | apply pbN | apply bd1 | refine bst ?_ GE240.out) | exact HB.out)) hb); clear HO232; clear HO243; clear BK240; clear HB; have HO232 := n0_; have HO243 := n1_; have HO247 := n2_; have BK240 := n3_; have HB := n4_; clear n0_ n1_ n2_ n3_ n4_; (try clear hb); (try clear hb2); (try clear hk); (try clear hi); (try clear ho0); obtain ⟨Ao33, co33, eo33⟩ := Kd.R_slice HO247.out; subst eo33) | ((with_reducible refine gate_callee (f := 19) rfl ?_); refine goesL_ (some 36) rfl rfl Try.func19 (by kernel_rfl) rfl #[.slice Ao33 t245.length co33] rfl (by (try simp only [List.map_toArray, List.map_cons, List.map_nil]); first | done | rfl | (simp only [List.length_drop, List.length_take]; rfl)) ?_; (with_reducible refine (frame_ReadData.calls k _ _ t245 t249 t250 t251 t252 t253 t254 _ ?side1 ?side2 A5.out).mono ?_); (case side1 => repeat (first | exact (Kd.R_reads' HO247.out).2.2 | (with_reducible refine Kd.C_alloc ?_ _) | (with_reducible refine Kd.C_drewN ?_ _) | (with_reducible refine Kd.C_drew ?_))); (case side2 => exact (Kd.R_reads' HO247.out).2.1); rintro e w34 ⟨rfl, hb⟩; refine ⟨_, rfl, ?_⟩; have n0_ := Azz.mk (Kd.R_below (by (with_reducible repeat (first | apply Kd.R_alloc | apply Kd.R_drewN | apply Kd.R_drew)); exact HO232.out) hb); have n1_ := Azz.mk (Kd.R_below (by (with_reducible repeat (first | apply Kd.R_alloc | apply Kd.R_drewN | apply Kd.R_drew)); exact HO243.out) hb); have n2_ := Azz.mk (Kd.R_below (by (with_reducible repeat (first | apply Kd.R_alloc | apply Kd.R_drewN | apply Kd.R_drew)); exact HO247.out) hb); have n3_ := Azz.mk (blk_below (g := gb240) (o := .cells #[.int .i64 t234, .int .i64 t235, .int .i64 t236, .int .u32 t237, .int .i64 t238] 24 (0, 0)) (by (with_reducible repeat (first | refine kdN ?_ _ | refine kd1 ?_ | refine kal ?_ _)); exact BK240.out) hb); have n4_ := Azz.mk (below_step (by repeat (first | (with_reducible first | exact HB.out | apply bal | apply pbN | apply bd1 | refine bst ?_ GE240.out) | exact HB.out)) hb); clear HO232; clear HO243; clear HO247; clear BK240; clear HB; have HO232 := n0_; have HO243 := n1_; have HO247 := n2_; have BK240 := n3_; have HB := n4_; clear n0_ n1_ n2_ n3_ n4_; (try clear hb); (try clear hb2); (try clear hk); (try clear hi)) | ((with_reducible refine gate_dst (N := 9) rfl ?_); (try (refine gate_guard (by rfl) ?_; dsimp only)); refine box_event ?hg (N := 9) ?hd (cs := #[.int .i64 0, .int .i64 0, .int .i64 0, .string (⟨#[]⟩ : ByteArray), .int .i64 0]) (t := 36) ?hr ?_; (case hd => rfl); (case hg => rfl); (case hr => first | (go_simp; done) | (go_simp; rfl)); intro gb255 hg w35 hbox hb; have n0_ := Azz.mk (Kd.R_below (by (with_reducible repeat (first | apply Kd.R_alloc | apply Kd.R_drewN | apply Kd.R_drew)); exact HO232.out) hb); have n1_ := Azz.mk (Kd.R_below (by (with_reducible repeat (first | apply Kd.R_alloc | apply Kd.R_drewN | apply Kd.R_drew)); exact HO243.out) hb); have n2_ := Azz.mk (Kd.R_below (by (with_reducible repeat (first | apply Kd.R_alloc | apply Kd.R_drewN | apply Kd.R_drew)); exact HO247.out) hb); have n3_ := Azz.mk (blk_below (g := gb240) (o := .cells #[.int .i64 t234, .int .i64 t235, .int .i64 t236, .int .u32 t237, .int .i64 t238] 24 (0, 0)) (by (with_reducible repeat (first | refine kdN ?_ _ | refine kd1 ?_ | refine kal ?_ _)); exact BK240.out) hb); have n4_ := Azz.mk (below_step (by repeat (first | (with_reducible first | exact HB.out | apply bal | apply pbN | apply bd1 | refine bst ?_ GE240.out) | exact HB.out)) hb); have n5_ := Azz.mk (hbox); have n6_ := Azz.mk ((by rw [hg]; exact (below_size (by repeat (first | (with_reducible first | exact HB.out | apply bal | apply pbN | apply bd1 | refine bst ?_ GE240.out) | exact HB.out))) : w.heap.size ≤ gb255)); have n7_ := Azz.mk ((by rw [hg]; exact (below_size (by repeat (first | (with_reducible first | exact HB.out | apply bal | apply pbN | apply bd1 | refine bst ?_ GE240.out) | exact HB.out))) : w.heap.size ≤ gb255)); have n8_ := Azz.mk ((by rw [hg]; exact Nat.ne_of_lt (blk_lt (g := gb240) (o := .cells #[.int .i64 t234, .int .i64 t235, .int .i64 t236, .int .u32 t237, .int .i64 t238] 24 (0, 0)) (by (with_reducible repeat (first | refine kdN ?_ _ | refine kd1 ?_ | refine kal ?_ _)); exact BK240.out)) : gb240 ≠ gb255)); have n9_ := Azz.mk ((by rw [hg]; exact Nat.ne_of_gt (blk_lt (g := gb240) (o := .cells #[.int .i64 t234, .int .i64 t235, .int .i64 t236, .int .u32 t237, .int .i64 t238] 24 (0, 0)) (by (with_reducible repeat (first | refine kdN ?_ _ | refine kd1 ?_ | refine kal ?_ _)); exact BK240.out)) : gb255 ≠ gb240)); clear HO232; clear HO243; clear HO247; clear BK240; clear HB; have HO232 := n0_; have HO243 := n1_; have HO247 := n2_; have BK240 := n3_; have HB := n4_; have BK255 := n5_; have GW255 := n6_; have GE255 := n7_; have NB240_255 := n8_; have NB255_240 := n9_; clear n0_ n1_ n2_ n3_ n4_ n5_ n6_ n7_ n8_ n9_; clear hb hbox hg; have hnb36 := NB255_240.out; have hnc36 := NB240_255.out; have hcz37_0 : World.cell? _ ⟨gb255, 0, none⟩ = some (.int .i64 0) := (kcl BK255.out 0).trans rfl; have hcz37_1 : World.cell? _ ⟨gb255, 1, none⟩ = some (.int .i64 0) := (kcl BK255.out 1).trans rfl; have hcz37_2 : World.cell? _ ⟨gb255, 2, none⟩ = some (.int .i64 0) := (kcl BK255.out 2).trans rfl; have hcz37_3 : World.cell? _ ⟨gb255, 3, none⟩ = some (.string (⟨#[]⟩ : ByteArray)) := (kcl BK255.out 3).trans rfl; have hcz37_4 : World.cell? _ ⟨gb255, 4, none⟩ = some (.int .i64 0) := (kcl BK255.out 4).trans rfl; have hfz37_0 := kfz BK255.out 0; have hfz37_1 := kfz BK255.out 1; have hfz37_2 := kfz BK255.out 2; have hfz37_3 := kfz BK255.out 3; have hfz37_4 := kfz BK255.out 4) | ((with_reducible refine gate_dst (N := 39) rfl ?_); (try (refine gate_guard (by rfl) ?_; dsimp only)); refine Kd.R_make (Kd.int .u8) _ 5 rfl (N := 39) rfl 26 _ _ rfl 64 rfl rfl Try.underlying26 (.int .u8 0) 1 info5 rfl (by decide) (by omega) 0 (ok := fun _ => True) (okp := fun _ => True) rfl (fun _ hk => hk) trivial (by omega) (by omega) (Below.refl _ _) (Nat.le_refl _) ?_; intro v257 w38 ho39 hb hg_ hnew_; clear hg_ hnew_; (first | rw [← Ny256.out] at ho39 | (simp only [Int.reduceToNat] at ho39; rw [← Ny256.out] at ho39)); have n0_ := Azz.mk (Kd.R_elder' (by (with_reducible repeat (first | apply Kd.R_alloc | apply Kd.R_drewN | apply Kd.R_drew)); exact (Kd.R_mono (Kd.R_far (p := ⟨gb255, 4, none⟩) (Kd.R_far (p := ⟨gb255, 3, none⟩) (Kd.R_far (p := ⟨gb255, 2, none⟩) (Kd.R_far (p := ⟨gb255, 1, none⟩) (Kd.R_far (p := ⟨gb255, 0, none⟩) (Kd.R_types HO232.out BK255.out (by decide)) (fun _ hk => hk.2) (.int .i64 t249)) (fun _ hk => hk.2) (.int .i64 t250)) (fun _ hk => hk.2) (.int .i64 t251)) (fun _ hk => hk.2) (.string t252)) (fun _ hk => hk.2) (.int .i64 t253)) (fun _ h_ => h_.1))) (Kd.R_base ho39) hb); have n1_ := Azz.mk (Kd.R_elder' (by (with_reducible repeat (first | apply Kd.R_alloc | apply Kd.R_drewN | apply Kd.R_drew)); exact (Kd.R_mono (Kd.R_far (p := ⟨gb255, 4, none⟩) (Kd.R_far (p := ⟨gb255, 3, none⟩) (Kd.R_far (p := ⟨gb255, 2, none⟩) (Kd.R_far (p := ⟨gb255, 1, none⟩) (Kd.R_far (p := ⟨gb255, 0, none⟩) (Kd.R_types HO243.out BK255.out (by decide)) (fun _ hk => hk.2) (.int .i64 t249)) (fun _ hk => hk.2) (.int .i64 t250)) (fun _ hk => hk.2) (.int .i64 t251)) (fun _ hk => hk.2) (.string t252)) (fun _ hk => hk.2) (.int .i64 t253)) (fun _ h_ => h_.1))) (Kd.R_base ho39) hb); have n2_ := Azz.mk (Kd.R_elder' (by (with_reducible repeat (first | apply Kd.R_alloc | apply Kd.R_drewN | apply Kd.R_drew)); exact (Kd.R_mono (Kd.R_far (p := ⟨gb255, 4, none⟩) (Kd.R_far (p := ⟨gb255, 3, none⟩) (Kd.R_far (p := ⟨gb255, 2, none⟩) (Kd.R_far (p := ⟨gb255, 1, none⟩) (Kd.R_far (p := ⟨gb255, 0, none⟩) (Kd.R_types HO247.out BK255.out (by decide)) (fun _ hk => hk.2) (.int .i64 t249)) (fun _ hk => hk.2) (.int .i64 t250)) (fun _ hk => hk.2) (.int .i64 t251)) (fun _ hk => hk.2) (.string t252)) (fun _ hk => hk.2) (.int .i64 t253)) (fun _ h_ => h_.1))) (Kd.R_base ho39) hb); have n3_ := Azz.mk (Kd.R_lower (Kd.R_new' (Kd.R_new' (Kd.R_new' ho39 (Kd.R_lt (by (with_reducible repeat (first | apply Kd.R_alloc | apply Kd.R_drewN | apply Kd.R_drew)); exact (Kd.R_mono (Kd.R_far (p := ⟨gb255, 4, none⟩) (Kd.R_far (p := ⟨gb255, 3, none⟩) (Kd.R_far (p := ⟨gb255, 2, none⟩) (Kd.R_far (p := ⟨gb255, 1, none⟩) (Kd.R_far (p := ⟨gb255, 0, none⟩) (Kd.R_types HO232.out BK255.out (by decide)) (fun _ hk => hk.2) (.int .i64 t249)) (fun _ hk => hk.2) (.int .i64 t250)) (fun _ hk => hk.2) (.int .i64 t251)) (fun _ hk => hk.2) (.string t252)) (fun _ hk => hk.2) (.int .i64 t253)) (fun _ h_ => h_.1))))) (Kd.R_lt (by (with_reducible repeat (first | apply Kd.R_alloc | apply Kd.R_drewN | apply Kd.R_drew)); exact (Kd.R_mono (Kd.R_far (p := ⟨gb255, 4, none⟩) (Kd.R_far (p := ⟨gb255, 3, none⟩) (Kd.R_far (p := ⟨gb255, 2, none⟩) (Kd.R_far (p := ⟨gb255, 1, none⟩) (Kd.R_far (p := ⟨gb255, 0, none⟩) (Kd.R_types HO243.out BK255.out (by decide)) (fun _ hk => hk.2) (.int .i64 t249)) (fun _ hk => hk.2) (.int .i64 t250)) (fun _ hk => hk.2) (.int .i64 t251)) (fun _ hk => hk.2) (.string t252)) (fun _ hk => hk.2) (.int .i64 t253)) (fun _ h_ => h_.1))))) (Kd.R_lt (by (with_reducible repeat (first | apply Kd.R_alloc | apply Kd.R_drewN | apply Kd.R_drew)); exact (Kd.R_mono (Kd.R_far (p := ⟨gb255, 4, none⟩) (Kd.R_far (p := ⟨gb255, 3, none⟩) (Kd.R_far (p := ⟨gb255, 2, none⟩) (Kd.R_far (p := ⟨gb255, 1, none⟩) (Kd.R_far (p := ⟨gb255, 0, none⟩) (Kd.R_types HO247.out BK255.out (by decide)) (fun _ hk => hk.2) (.int .i64 t249)) (fun _ hk => hk.2) (.int .i64 t250)) (fun _ hk => hk.2) (.int .i64 t251)) (fun _ hk => hk.2) (.string t252)) (fun _ hk => hk.2) (.int .i64 t253)) (fun _ h_ => h_.1))))) (below_size (by repeat (first | (with_reducible first | exact HB.out | apply bal | apply pbN | apply bd1 | refine bst ?_ GE240.out | refine bst ?_ GE255.out) | exact HB.out)))); have n4_ := Azz.mk (blk_below (g := gb240) (o := .cells #[.int .i64 t234, .int .i64 t235, .int .i64 t236, .int .u32 t237, .int .i64 t238] 24 (0, 0)) (by (with_reducible repeat (first | refine kdN ?_ _ | refine kd1 ?_ | refine kal ?_ _)); refine blk_far ?_ NB240_255.out _; (with_reducible repeat (first | refine kdN ?_ _ | refine kd1 ?_ | refine kal ?_ _)); refine blk_far ?_ NB240_255.out _; (with_reducible repeat (first | refine kdN ?_ _ | refine kd1 ?_ | refine kal ?_ _)); refine blk_far ?_ NB240_255.out _; (with_reducible repeat (first | refine kdN ?_ _ | refine kd1 ?_ | refine kal ?_ _)); refine blk_far ?_ NB240_255.out _; (with_reducible repeat (first | refine kdN ?_ _ | refine kd1 ?_ | refine kal ?_ _)); refine blk_far ?_ NB240_255.out _; (with_reducible repeat (first | refine kdN ?_ _ | refine kd1 ?_ | refine kal ?_ _)); exact BK240.out) hb); have n5_ := Azz.mk (blk_below (g := gb255) (o := .cells #[.int .i64 t249, .int .i64 t250, .int .i64 t251, .string t252, .int .i64 t253] 36 (0, 0)) (by (with_reducible repeat (first | refine kdN ?_ _ | refine kd1 ?_ | refine kal ?_ _)); refine blk_put (cs := #[.int .i64 t249, .int .i64 t250, .int .i64 t251, .string t252, .int .i64 0]) ?_ 4 _ rfl; (with_reducible repeat (first | refine kdN ?_ _ | refine kd1 ?_ | refine kal ?_ _)); refine blk_put (cs := #[.int .i64 t249, .int .i64 t250, .int .i64 t251, .string (⟨#[]⟩ : ByteArray), .int .i64 0]) ?_ 3 _ rfl; (with_reducible repeat (first | refine kdN ?_ _ | refine kd1 ?_ | refine kal ?_ _)); refine blk_put (cs := #[.int .i64 t249, .int .i64 t250, .int .i64 0, .string (⟨#[]⟩ : ByteArray), .int .i64 0]) ?_ 2 _ rfl; (with_reducible repeat (first | refine kdN ?_ _ | refine kd1 ?_ | refine kal ?_ _)); refine blk_put (cs := #[.int .i64 t249, .int .i64 0, .int .i64 0, .string (⟨#[]⟩ : ByteArray), .int .i64 0]) ?_ 1 _ rfl; (with_reducible repeat (first | refine kdN ?_ _ | refine kd1 ?_ | refine kal ?_ _)); refine blk_put (cs := #[.int .i64 0, .int .i64 0, .int .i64 0, .string (⟨#[]⟩ : ByteArray), .int .i64 0]) ?_ 0 _ rfl; (with_reducible repeat (first | refine kdN ?_ _ | refine kd1 ?_ | refine kal ?_ _)); exact BK255.out) hb); have n6_ := Azz.mk (below_step (by repeat (first | (with_reducible first | exact HB.out | apply bal | apply pbN | apply bd1 | refine bst ?_ GE240.out | refine bst ?_ GE255.out) | exact HB.out)) hb); clear HO232; clear HO243; clear HO247; clear BK240; clear BK255; clear HB; have HO232 := n0_; have HO243 := n1_; have HO247 := n2_; have HO258 := n3_; have BK240 := n4_; have BK255 := n5_; have HB := n6_; clear n0_ n1_ n2_ n3_ n4_ n5_ n6_; clear hb ho39; have p7 : 0 ≤ (0 : Int) := (by omega); have q7 : (0 : Int) < ((y256.length : Int) : Int) := of_decide_eq_true (by first | (with_reducible assumption) | assumption); have qi7 : (0 < y256.length) = True := eq_true (by omega); obtain ⟨go7, co7, eo7, gb7, gl7, cl7, HG7⟩ := Kd.R_form HO258.out (by omega); (first | cases eo7 | (injection eo7 with ea_ en_ ec_; (first | subst ea_ | (injection ea_ with ea_; subst ea_)); subst ec_; clear en_)); have GB7 := Azz.mk gb7; have GG7 := Azz.mk HG7; clear gb7 gl7 HG7; obtain ⟨hx7_0, hf7_0⟩ := Kd.R_celln 0 HO258.out (0 : Int) p7 q7; (try rw [show ((0 : Int)).toNat = 0 from rfl] at hx7_0); (try simp only [Nat.reduceMul, Nat.zero_mul, Nat.zero_add, Nat.reduceAdd] at hx7_0); (try rw [show ((0 : Int)).toNat = 0 from rfl] at hf7_0); (try simp only [Nat.reduceMul, Nat.zero_mul, Nat.zero_add, Nat.reduceAdd] at hf7_0); replace p7 := eq_true p7; replace q7 := eq_true q7; have n_ := Azz.mk (Kd.R_mono (ok' := (fun k_ => some k_ ≠ (.slice Ao27 t230.length co27 : Value).ownBlock ∧ some k_ ≠ (v242 : Value).ownBlock ∧ some k_ ≠ (.slice Ao33 t245.length co33 : Value).ownBlock)) HO258.out (fun k_ hk => ⟨hk.1.1.2, ⟨hk.1.2, hk.2⟩⟩)); clear HO258; have HO258 := n_; clear n_; obtain ⟨hy40_, hz40_⟩ := Kd.R_celln 0 HO258.out (0 : Int) (by omega) (of_decide_eq_true (by first | (with_reducible assumption) | assumption)); (try simp only [Int.reduceToNat, Int.toNat_zero, Int.toNat_ofNat, Nat.reduceMul, Nat.zero_mul, Nat.zero_add] at hy40_ hz40_); (try rw [show ((0 : Int)).toNat = 0 from rfl] at hy40_); (try rw [show ((0 : Int)).toNat = 0 from rfl] at hz40_); have HP40 := Kd.R_putg HO258.out (0 : Int) 8) | ((with_reducible refine gate_store (t := 5) (p := 41) rfl ?_); refine store_event (t := 5) (p := 41) (v := ?vo_w41) (w1 := (w38.setCell ⟨go7, (0 : Int).toNat, none⟩ (.int .u8 8))) ?hg ?ho ?hn ?hr ?_; (case ho => rfl); (case hg => rfl); (case hn => rfl); (case hr => first | (go_simp; done) | (go_simp; rfl)); intro w41 hw; have hg : w38.grownBy w41 (some go7) := (by rw [hw]; exact HP40.2); have hp_ : Kd.R (Kd.int .u8) 5 w41 w.heap.size (fun k_ => some k_ ≠ (.slice Ao27 t230.length co27 : Value).ownBlock ∧ some k_ ≠ (v242 : Value).ownBlock ∧ some k_ ≠ (.slice Ao33 t245.length co33 : Value).ownBlock) (.slice (some ⟨go7, 0, none⟩) y256.length co7) y259 := (by rw [hw, Ny259.out]; exact HP40.1); clear HP40; have n0_ := Azz.mk (Kd.R_after (v := (.slice (some ⟨go7, 0, none⟩) y256.length co7)) (v1 := (.slice (some ⟨go7, 0, none⟩) y256.length co7)) (ok := (fun k_ => some k_ ≠ (v242 : Value).ownBlock ∧ some k_ ≠ (.slice Ao33 t245.length co33 : Value).ownBlock)) (by (with_reducible repeat (first | apply Kd.R_alloc | apply Kd.R_drewN | apply Kd.R_drew)); exact Kd.R_mono HO232.out (fun _ hk => ⟨⟨hk.1.1.2, hk.1.2⟩, hk.2⟩)) hg (.inl rfl)); have n1_ := Azz.mk (blk_grown (g := gb240) (o := .cells #[.int .i64 t234, .int .i64 t235, .int .i64 t236, .int .u32 t237, .int .i64 t238] 24 (0, 0)) (by (with_reducible repeat (first | refine kdN ?_ _ | refine kd1 ?_ | refine kal ?_ _)); exact BK240.out) hg (Kd.R_ne HO258.out BK240.out (by decide))); have n2_ := Azz.mk (Kd.R_after (v := (.slice (some ⟨go7, 0, none⟩) y256.length co7)) (v1 := (.slice (some ⟨go7, 0, none⟩) y256.length co7)) (ok := (fun k_ => some k_ ≠ (.slice Ao27 t230.length co27 : Value).ownBlock ∧ some k_ ≠ (.slice Ao33 t245.length co33 : Value).ownBlock)) (by (with_reducible repeat (first | apply Kd.R_alloc | apply Kd.R_drewN | apply Kd.R_drew)); exact Kd.R_mono HO243.out (fun _ hk => ⟨⟨hk.1.1.2, hk.1.2⟩, hk.2⟩)) hg (.inl rfl)); have n3_ := Azz.mk (Kd.R_after (v := (.slice (some ⟨go7, 0, none⟩) y256.length co7)) (v1 := (.slice (some ⟨go7, 0, none⟩) y256.length co7)) (ok := (fun k_ => some k_ ≠ (.slice Ao27 t230.length co27 : Value).ownBlock ∧ some k_ ≠ (v242 : Value).ownBlock)) (by (with_reducible repeat (first | apply Kd.R_alloc | apply Kd.R_drewN | apply Kd.R_drew)); exact Kd.R_mono HO247.out (fun _ hk => ⟨⟨hk.1.1.2, hk.1.2⟩, hk.2⟩)) hg (.inl rfl)); have n4_ := Azz.mk (blk_grown (g := gb255) (o := .cells #[.int .i64 t249, .int .i64 t250, .int .i64 t251, .string t252, .int .i64 t253] 36 (0, 0)) (by (with_reducible repeat (first | refine kdN ?_ _ | refine kd1 ?_ | refine kal ?_ _)); exact BK255.out) hg (Kd.R_ne HO258.out BK255.out (by decide))); have n5_ := Azz.mk (hp_); have n6_ := Azz.mk ((by rw [hw]; exact bst (HB.out) GB7.out : Below w.heap.size w w41)); clear HO232; clear BK240; clear HO243; clear HO247; clear BK255; clear HO258; clear HB; have HO232 := n0_; have BK240 := n1_; have HO243 := n2_; have HO247 := n3_; have BK255 := n4_; have HO258 := n5_; have HB := n6_; clear n0_ n1_ n2_ n3_ n4_ n5_ n6_; clear hg hw hp_) | ((with_reducible refine gate_callee (f := 19) rfl ?_); refine goesL_ (some 44) rfl rfl Try.func19 (by kernel_rfl) rfl #[.slice (some ⟨go7, 0, none⟩) y259.length co7] rfl (by (try simp only [List.map_toArray, List.map_cons, List.map_nil]); first | done | (rw [show y259.length = y256.length from (Kd.R_reads' HO258.out).1.symm] <;> rfl) | rfl | (simp only [List.length_drop, List.length_take]; rfl)) ?_; (with_reducible refine (frame_ReadData.calls k _ _ y259 t260 t261 t262 t263 t264 t265 _ ?side1 ?side2 A8.out).mono ?_); (case side1 => repeat (first | exact (Kd.R_reads' HO258.out).2.2 | (with_reducible refine Kd.C_alloc ?_ _) | (with_reducible refine Kd.C_drewN ?_ _) | (with_reducible refine Kd.C_drew ?_))); (case side2 => rw [show y259.length = y256.length from (Kd.R_reads' HO258.out).1.symm]; exact (Kd.R_reads' HO258.out).2.1); rintro e w42 ⟨rfl, hb⟩; refine ⟨_, rfl, ?_⟩; have n0_ := Azz.mk (Kd.R_below (by (with_reducible repeat (first | apply Kd.R_alloc | apply Kd.R_drewN | apply Kd.R_drew)); exact HO232.out) hb); have n1_ := Azz.mk (Kd.R_below (by (with_reducible repeat (first | apply Kd.R_alloc | apply Kd.R_drewN | apply Kd.R_drew)); exact HO243.out) hb); have n2_ := Azz.mk (Kd.R_below (by (with_reducible repeat (first | apply Kd.R_alloc | apply Kd.R_drewN | apply Kd.R_drew)); exact HO247.out) hb); have n3_ := Azz.mk (Kd.R_below (by (with_reducible repeat (first | apply Kd.R_alloc | apply Kd.R_drewN | apply Kd.R_drew)); exact HO258.out) hb); have n4_ := Azz.mk (blk_below (g := gb240) (o := .cells #[.int .i64 t234, .int .i64 t235, .int .i64 t236, .int .u32 t237, .int .i64 t238] 24 (0, 0)) (by (with_reducible repeat (first | refine kdN ?_ _ | refine kd1 ?_ | refine kal ?_ _)); exact BK240.out) hb); have n5_ := Azz.mk (blk_below (g := gb255) (o := .cells #[.int .i64 t249, .int .i64 t250, .int .i64 t251, .string t252, .int .i64 t253] 36 (0, 0)) (by (with_reducible repeat (first | refine kdN ?_ _ | refine kd1 ?_ | refine kal ?_ _)); exact BK255.out) hb); have n6_ := Azz.mk (below_step (by repeat (first | (with_reducible first | exact HB.out | apply bal | apply pbN | apply bd1 | refine bst ?_ GE240.out | refine bst ?_ GE255.out) | exact HB.out)) hb); clear HO232; clear HO243; clear HO247; clear HO258; clear BK240; clear BK255; clear HB; have HO232 := n0_; have HO243 := n1_; have HO247 := n2_; have HO258 := n3_; have BK240 := n4_; have BK255 := n5_; have HB := n6_; clear n0_ n1_ n2_ n3_ n4_ n5_ n6_; (try clear hb); (try clear hb2); (try clear hk); (try clear hi)) | ((with_reducible refine gate_dst (N := 12) rfl ?_); (try (refine gate_guard (by rfl) ?_; dsimp only)); refine box_event ?hg (N := 12) ?hd (cs := #[.int .i64 0, .int .i64 0, .int .i64 0, .string (⟨#[]⟩ : ByteArray), .int .i64 0]) (t := 36) ?hr ?_; (case hd => rfl); (case hg => rfl); (case hr => first | (go_simp; done) | (go_simp; rfl)); intro gb266 hg w43 hbox hb; have n0_ := Azz.mk (Kd.R_below (by (with_reducible repeat (first | apply Kd.R_alloc | apply Kd.R_drewN | apply Kd.R_drew)); exact HO232.out) hb); have n1_ := Azz.mk (Kd.R_below (by (with_reducible repeat (first | apply Kd.R_alloc | apply Kd.R_drewN | apply Kd.R_drew)); exact HO243.out) hb); have n2_ := Azz.mk (Kd.R_below (by (with_reducible repeat (first | apply Kd.R_alloc | apply Kd.R_drewN | apply Kd.R_drew)); exact HO247.out) hb); have n3_ := Azz.mk (Kd.R_below (by (with_reducible repeat (first | apply Kd.R_alloc | apply Kd.R_drewN | apply Kd.R_drew)); exact HO258.out) hb); have n4_ := Azz.mk (blk_below (g := gb240) (o := .cells #[.int .i64 t234, .int .i64 t235, .int .i64 t236, .int .u32 t237, .int .i64 t238] 24 (0, 0)) (by (with_reducible repeat (first | refine kdN ?_ _ | refine kd1 ?_ | refine kal ?_ _)); exact BK240.out) hb); have n5_ := Azz.mk (blk_below (g := gb255) (o := .cells #[.int .i64 t249, .int .i64 t250, .int .i64 t251, .string t252, .int .i64 t253] 36 (0, 0)) (by (with_reducible repeat (first | refine kdN ?_ _ | refine kd1 ?_ | refine kal ?_ _)); exact BK255.out) hb); have n6_ := Azz.mk (below_step (by repeat (first | (with_reducible first | exact HB.out | apply bal | apply pbN | apply bd1 | refine bst ?_ GE240.out | refine bst ?_ GE255.out) | exact HB.out)) hb); have n7_ := Azz.mk (hbox); have n8_ := Azz.mk ((by rw [hg]; exact (below_size (by repeat (first | (with_reducible first | exact HB.out | apply bal | apply pbN | apply bd1 | refine bst ?_ GE240.out | refine bst ?_ GE255.out) | exact HB.out))) : w.heap.size ≤ gb266)); have n9_ := Azz.mk ((by rw [hg]; exact (below_size (by repeat (first | (with_reducible first | exact HB.out | apply bal | apply pbN | apply bd1 | refine bst ?_ GE240.out | refine bst ?_ GE255.out) | exact HB.out))) : w.heap.size ≤ gb266)); have n10_ := Azz.mk ((by rw [hg]; exact Nat.ne_of_lt (blk_lt (g := gb240) (o := .cells #[.int .i64 t234, .int .i64 t235, .int .i64 t236, .int .u32 t237, .int .i64 t238] 24 (0, 0)) (by (with_reducible repeat (first | refine kdN ?_ _ | refine kd1 ?_ | refine kal ?_ _)); exact BK240.out)) : gb240 ≠ gb266)); have n11_ := Azz.mk ((by rw [hg]; exact Nat.ne_of_gt (blk_lt (g := gb240) (o := .cells #[.int .i64 t234, .int .i64 t235, .int .i64 t236, .int .u32 t237, .int .i64 t238] 24 (0, 0)) (by (with_reducible repeat (first | refine kdN ?_ _ | refine kd1 ?_ | refine kal ?_ _)); exact BK240.out)) : gb266 ≠ gb240)); have n12_ := Azz.mk ((by rw [hg]; exact Nat.ne_of_lt (blk_lt (g := gb255) (o := .cells #[.int .i64 t249, .int .i64 t250, .int .i64 t251, .string t252, .int .i64 t253] 36 (0, 0)) (by (with_reducible repeat (first | refine kdN ?_ _ | refine kd1 ?_ | refine kal ?_ _)); exact BK255.out)) : gb255 ≠ gb266)); have n13_ := Azz.mk ((by rw [hg]; exact Nat.ne_of_gt (blk_lt (g := gb255) (o := .cells #[.int .i64 t249, .int .i64 t250, .int .i64 t251, .string t252, .int .i64 t253] 36 (0, 0)) (by (with_reducible repeat (first | refine kdN ?_ _ | refine kd1 ?_ | refine kal ?_ _)); exact BK255.out)) : gb266 ≠ gb255)); clear HO232; clear HO243; clear HO247; clear HO258; clear BK240; clear BK255; clear HB; have HO232 := n0_; have HO243 := n1_; have HO247 := n2_; have HO258 := n3_; have BK240 := n4_; have BK255 := n5_; have HB := n6_; have BK266 := n7_; have GW266 := n8_; have GE266 := n9_; have NB240_266 := n10_; have NB266_240 := n11_; have NB255_266 := n12_; have NB266_255 := n13_; clear n0_ n1_ n2_ n3_ n4_ n5_ n6_ n7_ n8_ n9_ n10_ n11_ n12_ n13_; clear hb hbox hg; have hnb44 := NB266_240.out; have hnc44 := NB240_266.out; have hnb45 := NB266_255.out; have hnc45 := NB255_266.out; have hcz46_0 : World.cell? _ ⟨gb266, 0, none⟩ = some (.int .i64 0) := (kcl BK266.out 0).trans rfl; have hcz46_1 : World.cell? _ ⟨gb266, 1, none⟩ = some (.int .i64 0) := (kcl BK266.out 1).trans rfl; have hcz46_2 : World.cell? _ ⟨gb266, 2, none⟩ = some (.int .i64 0) := (kcl BK266.out 2).trans rfl; have hcz46_3 : World.cell? _ ⟨gb266, 3, none⟩ = some (.string (⟨#[]⟩ : ByteArray)) := (kcl BK266.out 3).trans rfl; have hcz46_4 : World.cell? _ ⟨gb266, 4, none⟩ = some (.int .i64 0) := (kcl BK266.out 4).trans rfl; have hfz46_0 := kfz BK266.out 0; have hfz46_1 := kfz BK266.out 1; have hfz46_2 := kfz BK266.out 2; have hfz46_3 := kfz BK266.out 3; have hfz46_4 := kfz BK266.out 4) | ((with_reducible refine gate_dst (N := 48) rfl ?_); (try (refine gate_guard (by rfl) ?_; dsimp only)); refine Go.Proofs.Ytgeheedfmdlefaa.Conv.conv_lit_event ?hg (N := 48) ?hd (e := 5) (n := 9) (c := 9) (xs := y267) ?hx ?hn ?hcc ?hbb ?hr ?_; (case hd => rfl); (case hg => rfl); (case hr => exact Go.Proofs.Ytgeheedfmdlefaa.Conv.conv_lit_run rfl rfl (by first | rfl | (simp; done)) Try.underlying26 Try.underlying5); (case hx => rw [Ny267.out]; rfl); (case hn => rw [Ny267.out]; rfl); (case hcc => rw [Ny267.out]; decide); (case hbb => rw [Ny267.out]; decide); intro gcv48 ccv48 w47 hge_ hC hcc hb; have n0_ := Azz.mk ((Kd.fresh' (Kd.R_lt (by (with_reducible repeat (first | apply Kd.R_alloc | apply Kd.R_drewN | apply Kd.R_drew)); exact (Kd.R_mono (Kd.R_far (p := ⟨gb266, 4, none⟩) (Kd.R_far (p := ⟨gb266, 3, none⟩) (Kd.R_far (p := ⟨gb266, 2, none⟩) (Kd.R_far (p := ⟨gb266, 1, none⟩) (Kd.R_far (p := ⟨gb266, 0, none⟩) (Kd.R_types HO232.out BK266.out (by decide)) (fun _ hk => hk.2) (.int .i64 t260)) (fun _ hk => hk.2) (.int .i64 t261)) (fun _ hk => hk.2) (.int .i64 t262)) (fun _ hk => hk.2) (.string t263)) (fun _ hk => hk.2) (.int .i64 t264)) (fun _ h_ => h_.1)))) gcv48 hge_)); have n1_ := Azz.mk ((Kd.fresh' (Kd.R_lt (by (with_reducible repeat (first | apply Kd.R_alloc | apply Kd.R_drewN | apply Kd.R_drew)); exact (Kd.R_mono (Kd.R_far (p := ⟨gb266, 4, none⟩) (Kd.R_far (p := ⟨gb266, 3, none⟩) (Kd.R_far (p := ⟨gb266, 2, none⟩) (Kd.R_far (p := ⟨gb266, 1, none⟩) (Kd.R_far (p := ⟨gb266, 0, none⟩) (Kd.R_types HO243.out BK266.out (by decide)) (fun _ hk => hk.2) (.int .i64 t260)) (fun _ hk => hk.2) (.int .i64 t261)) (fun _ hk => hk.2) (.int .i64 t262)) (fun _ hk => hk.2) (.string t263)) (fun _ hk => hk.2) (.int .i64 t264)) (fun _ h_ => h_.1)))) gcv48 hge_)); have n2_ := Azz.mk ((Kd.fresh' (Kd.R_lt (by (with_reducible repeat (first | apply Kd.R_alloc | apply Kd.R_drewN | apply Kd.R_drew)); exact (Kd.R_mono (Kd.R_far (p := ⟨gb266, 4, none⟩) (Kd.R_far (p := ⟨gb266, 3, none⟩) (Kd.R_far (p := ⟨gb266, 2, none⟩) (Kd.R_far (p := ⟨gb266, 1, none⟩) (Kd.R_far (p := ⟨gb266, 0, none⟩) (Kd.R_types HO247.out BK266.out (by decide)) (fun _ hk => hk.2) (.int .i64 t260)) (fun _ hk => hk.2) (.int .i64 t261)) (fun _ hk => hk.2) (.int .i64 t262)) (fun _ hk => hk.2) (.string t263)) (fun _ hk => hk.2) (.int .i64 t264)) (fun _ h_ => h_.1)))) gcv48 hge_)); have n3_ := Azz.mk ((Kd.fresh' (Kd.R_lt (by (with_reducible repeat (first | apply Kd.R_alloc | apply Kd.R_drewN | apply Kd.R_drew)); exact (Kd.R_mono (Kd.R_far (p := ⟨gb266, 4, none⟩) (Kd.R_far (p := ⟨gb266, 3, none⟩) (Kd.R_far (p := ⟨gb266, 2, none⟩) (Kd.R_far (p := ⟨gb266, 1, none⟩) (Kd.R_far (p := ⟨gb266, 0, none⟩) (Kd.R_types HO258.out BK266.out (by decide)) (fun _ hk => hk.2) (.int .i64 t260)) (fun _ hk => hk.2) (.int .i64 t261)) (fun _ hk => hk.2) (.int .i64 t262)) (fun _ hk => hk.2) (.string t263)) (fun _ hk => hk.2) (.int .i64 t264)) (fun _ h_ => h_.1)))) gcv48 hge_)); have n4_ := Azz.mk (Kd.R_below (by (with_reducible repeat (first | apply Kd.R_alloc | apply Kd.R_drewN | apply Kd.R_drew)); exact (Kd.R_mono (Kd.R_far (p := ⟨gb266, 4, none⟩) (Kd.R_far (p := ⟨gb266, 3, none⟩) (Kd.R_far (p := ⟨gb266, 2, none⟩) (Kd.R_far (p := ⟨gb266, 1, none⟩) (Kd.R_far (p := ⟨gb266, 0, none⟩) (Kd.R_types HO232.out BK266.out (by decide)) (fun _ hk => hk.2) (.int .i64 t260)) (fun _ hk => hk.2) (.int .i64 t261)) (fun _ hk => hk.2) (.int .i64 t262)) (fun _ hk => hk.2) (.string t263)) (fun _ hk => hk.2) (.int .i64 t264)) (fun _ h_ => h_.1))) hb); have n5_ := Azz.mk (Kd.R_below (by (with_reducible repeat (first | apply Kd.R_alloc | apply Kd.R_drewN | apply Kd.R_drew)); exact (Kd.R_mono (Kd.R_far (p := ⟨gb266, 4, none⟩) (Kd.R_far (p := ⟨gb266, 3, none⟩) (Kd.R_far (p := ⟨gb266, 2, none⟩) (Kd.R_far (p := ⟨gb266, 1, none⟩) (Kd.R_far (p := ⟨gb266, 0, none⟩) (Kd.R_types HO243.out BK266.out (by decide)) (fun _ hk => hk.2) (.int .i64 t260)) (fun _ hk => hk.2) (.int .i64 t261)) (fun _ hk => hk.2) (.int .i64 t262)) (fun _ hk => hk.2) (.string t263)) (fun _ hk => hk.2) (.int .i64 t264)) (fun _ h_ => h_.1))) hb); have n6_ := Azz.mk (Kd.R_below (by (with_reducible repeat (first | apply Kd.R_alloc | apply Kd.R_drewN | apply Kd.R_drew)); exact (Kd.R_mono (Kd.R_far (p := ⟨gb266, 4, none⟩) (Kd.R_far (p := ⟨gb266, 3, none⟩) (Kd.R_far (p := ⟨gb266, 2, none⟩) (Kd.R_far (p := ⟨gb266, 1, none⟩) (Kd.R_far (p := ⟨gb266, 0, none⟩) (Kd.R_types HO247.out BK266.out (by decide)) (fun _ hk => hk.2) (.int .i64 t260)) (fun _ hk => hk.2) (.int .i64 t261)) (fun _ hk => hk.2) (.int .i64 t262)) (fun _ hk => hk.2) (.string t263)) (fun _ hk => hk.2) (.int .i64 t264)) (fun _ h_ => h_.1))) hb); have n7_ := Azz.mk (Kd.R_below (by (with_reducible repeat (first | apply Kd.R_alloc | apply Kd.R_drewN | apply Kd.R_drew)); exact (Kd.R_mono (Kd.R_far (p := ⟨gb266, 4, none⟩) (Kd.R_far (p := ⟨gb266, 3, none⟩) (Kd.R_far (p := ⟨gb266, 2, none⟩) (Kd.R_far (p := ⟨gb266, 1, none⟩) (Kd.R_far (p := ⟨gb266, 0, none⟩) (Kd.R_types HO258.out BK266.out (by decide)) (fun _ hk => hk.2) (.int .i64 t260)) (fun _ hk => hk.2) (.int .i64 t261)) (fun _ hk => hk.2) (.int .i64 t262)) (fun _ hk => hk.2) (.string t263)) (fun _ hk => hk.2) (.int .i64 t264)) (fun _ h_ => h_.1))) hb); have n8_ := Azz.mk (blk_below (g := gb240) (o := .cells #[.int .i64 t234, .int .i64 t235, .int .i64 t236, .int .u32 t237, .int .i64 t238] 24 (0, 0)) (by (with_reducible repeat (first | refine kdN ?_ _ | refine kd1 ?_ | refine kal ?_ _)); refine blk_far ?_ NB240_266.out _; (with_reducible repeat (first | refine kdN ?_ _ | refine kd1 ?_ | refine kal ?_ _)); refine blk_far ?_ NB240_266.out _; (with_reducible repeat (first | refine kdN ?_ _ | refine kd1 ?_ | refine kal ?_ _)); refine blk_far ?_ NB240_266.out _; (with_reducible repeat (first | refine kdN ?_ _ | refine kd1 ?_ | refine kal ?_ _)); refine blk_far ?_ NB240_266.out _; (with_reducible repeat (first | refine kdN ?_ _ | refine kd1 ?_ | refine kal ?_ _)); refine blk_far ?_ NB240_266.out _; (with_reducible repeat (first | refine kdN ?_ _ | refine kd1 ?_ | refine kal ?_ _)); exact BK240.out) hb); have n9_ := Azz.mk (blk_below (g := gb255) (o := .cells #[.int .i64 t249, .int .i64 t250, .int .i64 t251, .string t252, .int .i64 t253] 36 (0, 0)) (by (with_reducible repeat (first | refine kdN ?_ _ | refine kd1 ?_ | refine kal ?_ _)); refine blk_far ?_ NB255_266.out _; (with_reducible repeat (first | refine kdN ?_ _ | refine kd1 ?_ | refine kal ?_ _)); refine blk_far ?_ NB255_266.out _; (with_reducible repeat (first | refine kdN ?_ _ | refine kd1 ?_ | refine kal ?_ _)); refine blk_far ?_ NB255_266.out _; (with_reducible repeat (first | refine kdN ?_ _ | refine kd1 ?_ | refine kal ?_ _)); refine blk_far ?_ NB255_266.out _; (with_reducible repeat (first | refine kdN ?_ _ | refine kd1 ?_ | refine kal ?_ _)); refine blk_far ?_ NB255_266.out _; (with_reducible repeat (first | refine kdN ?_ _ | refine kd1 ?_ | refine kal ?_ _)); exact BK255.out) hb); have n10_ := Azz.mk (blk_below (g := gb266) (o := .cells #[.int .i64 t260, .int .i64 t261, .int .i64 t262, .string t263, .int .i64 t264] 36 (0, 0)) (by (with_reducible repeat (first | refine kdN ?_ _ | refine kd1 ?_ | refine kal ?_ _)); refine blk_put (cs := #[.int .i64 t260, .int .i64 t261, .int .i64 t262, .string t263, .int .i64 0]) ?_ 4 _ rfl; (with_reducible repeat (first | refine kdN ?_ _ | refine kd1 ?_ | refine kal ?_ _)); refine blk_put (cs := #[.int .i64 t260, .int .i64 t261, .int .i64 t262, .string (⟨#[]⟩ : ByteArray), .int .i64 0]) ?_ 3 _ rfl; (with_reducible repeat (first | refine kdN ?_ _ | refine kd1 ?_ | refine kal ?_ _)); refine blk_put (cs := #[.int .i64 t260, .int .i64 t261, .int .i64 0, .string (⟨#[]⟩ : ByteArray), .int .i64 0]) ?_ 2 _ rfl; (with_reducible repeat (first | refine kdN ?_ _ | refine kd1 ?_ | refine kal ?_ _)); refine blk_put (cs := #[.int .i64 t260, .int .i64 0, .int .i64 0, .string (⟨#[]⟩ : ByteArray), .int .i64 0]) ?_ 1 _ rfl; (with_reducible repeat (first | refine kdN ?_ _ | refine kd1 ?_ | refine kal ?_ _)); refine blk_put (cs := #[.int .i64 0, .int .i64 0, .int .i64 0, .string (⟨#[]⟩ : ByteArray), .int .i64 0]) ?_ 0 _ rfl; (with_reducible repeat (first | refine kdN ?_ _ | refine kd1 ?_ | refine kal ?_ _)); exact BK266.out) hb); have n11_ := Azz.mk (below_step (by repeat (first | (with_reducible first | exact HB.out | apply bal | apply pbN | apply bd1 | refine bst ?_ GE240.out | refine bst ?_ GE255.out | refine bst ?_ GE266.out) | exact HB.out)) hb); have n12_ := Azz.mk (hC); have n13_ := Azz.mk (hcc); clear HO232; clear HO243; clear HO247; clear HO258; clear BK240; clear BK255; clear BK266; clear HB; have HNcv48_HO232 := n0_; have HNcv48_HO243 := n1_; have HNcv48_HO247 := n2_; have HNcv48_HO258 := n3_; have HO232 := n4_; have HO243 := n5_; have HO247 := n6_; have HO258 := n7_; have BK240 := n8_; have BK255 := n9_; have BK266 := n10_; have HB := n11_; have HR270 := n12_; have HC270 := n13_; clear n0_ n1_ n2_ n3_ n4_ n5_ n6_ n7_ n8_ n9_ n10_ n11_ n12_ n13_; clear hb hC hcc hge_) | ((with_reducible refine gate_callee (f := 23) rfl ?_); refine goesL_ (some 49) rfl rfl Try.func23 (by kernel_rfl) rfl #[.slice (some ⟨gcv48, 0, none⟩) y267.length ccv48] rfl (by (try simp only [List.map_toArray, List.map_cons, List.map_nil]); first | done | rfl | (simp only [List.length_drop, List.length_take]; rfl)) ?_; (with_reducible refine (frame_Sum.calls k _ _ y267 t271 _ ?side1 ?side2 A9.out).mono ?_); (case side1 => repeat (first | exact (by repeat (first | (with_reducible exact HR270.out) | (with_reducible refine Kd.C_alloc ?_ _) | (with_reducible refine Kd.C_drewN ?_ _) | (with_reducible refine Kd.C_drew ?_) | exact HR270.out)) | (with_reducible refine Kd.C_alloc ?_ _) | (with_reducible refine Kd.C_drewN ?_ _) | (with_reducible refine Kd.C_drew ?_))); (case side2 => exact HC270.out); rintro e w' ⟨rfl, ⟨nd, rfl⟩⟩; refine ⟨_, rfl, ?_⟩; have hcz49_0 : World.cell? _ ⟨gb240, 0, none⟩ = some (.int .i64 t234) := (kcl BK240.out 0).trans rfl; have hcz49_1 : World.cell? _ ⟨gb240, 1, none⟩ = some (.int .i64 t235) := (kcl BK240.out 1).trans rfl; have hcz49_2 : World.cell? _ ⟨gb240, 2, none⟩ = some (.int .i64 t236) := (kcl BK240.out 2).trans rfl; have hcz49_3 : World.cell? _ ⟨gb240, 3, none⟩ = some (.int .u32 t237) := (kcl BK240.out 3).trans rfl; have hcz49_4 : World.cell? _ ⟨gb240, 4, none⟩ = some (.int .i64 t238) := (kcl BK240.out 4).trans rfl; have hfz49_0 := kfz BK240.out 0; have hfz49_1 := kfz BK240.out 1; have hfz49_2 := kfz BK240.out 2; have hfz49_3 := kfz BK240.out 3; have hfz49_4 := kfz BK240.out 4; have hcz50_0 : World.cell? _ ⟨gb255, 0, none⟩ = some (.int .i64 t249) := (kcl BK255.out 0).trans rfl; have hcz50_1 : World.cell? _ ⟨gb255, 1, none⟩ = some (.int .i64 t250) := (kcl BK255.out 1).trans rfl; have hcz50_2 : World.cell? _ ⟨gb255, 2, none⟩ = some (.int .i64 t251) := (kcl BK255.out 2).trans rfl; have hcz50_3 : World.cell? _ ⟨gb255, 3, none⟩ = some (.string t252) := (kcl BK255.out 3).trans rfl; have hcz50_4 : World.cell? _ ⟨gb255, 4, none⟩ = some (.int .i64 t253) := (kcl BK255.out 4).trans rfl; have hfz50_0 := kfz BK255.out 0; have hfz50_1 := kfz BK255.out 1; have hfz50_2 := kfz BK255.out 2; have hfz50_3 := kfz BK255.out 3; have hfz50_4 := kfz BK255.out 4) | (go_at_call 16; (with_reducible refine (frame_Which.calls k _ _ t230 t272 _ ?side1 ?side2 A21.out).mono ?_); (case side1 => repeat (first | exact (Kd.R_reads' HO232.out).2.2 | (with_reducible refine Kd.C_alloc ?_ _) | (with_reducible refine Kd.C_drewN ?_ _) | (with_reducible refine Kd.C_drew ?_))); (case side2 => exact (Kd.R_reads' HO232.out).2.1); rintro e w' ⟨rfl, ⟨nd, rfl⟩⟩) | (go_at_call 16; (with_reducible refine (frame_Which.calls k _ _ t245 t273 _ ?side1 ?side2 A23.out).mono ?_); (case side1 => repeat (first | exact (Kd.R_reads' HO247.out).2.2 | (with_reducible refine Kd.C_alloc ?_ _) | (with_reducible refine Kd.C_drewN ?_ _) | (with_reducible refine Kd.C_drew ?_))); (case side2 => exact (Kd.R_reads' HO247.out).2.1); rintro e w' ⟨rfl, ⟨nd, rfl⟩⟩) | (go_at_call 25; (with_reducible refine (frame_Time.calls 10 t274 _ A25.out).mono ?_); rintro e w51 ⟨rfl, hb⟩; have n0_ := Azz.mk (Kd.R_below (by (with_reducible repeat (first | apply Kd.R_alloc | apply Kd.R_drewN | apply Kd.R_drew)); exact HO232.out) hb); have n1_ := Azz.mk (Kd.R_below (by (with_reducible repeat (first | apply Kd.R_alloc | apply Kd.R_drewN | apply Kd.R_drew)); exact HO243.out) hb); have n2_ := Azz.mk (Kd.R_below (by (with_reducible repeat (first | apply Kd.R_alloc | apply Kd.R_drewN | apply Kd.R_drew)); exact HO247.out) hb); have n3_ := Azz.mk (Kd.R_below (by (with_reducible repeat (first | apply Kd.R_alloc | apply Kd.R_drewN | apply Kd.R_drew)); exact HO258.out) hb); have n4_ := Azz.mk (blk_below (g := gb240) (o := .cells #[.int .i64 t234, .int .i64 t235, .int .i64 t236, .int .u32 t237, .int .i64 t238] 24 (0, 0)) (by (with_reducible repeat (first | refine kdN ?_ _ | refine kd1 ?_ | refine kal ?_ _)); exact BK240.out) hb); have n5_ := Azz.mk (blk_below (g := gb255) (o := .cells #[.int .i64 t249, .int .i64 t250, .int .i64 t251, .string t252, .int .i64 t253] 36 (0, 0)) (by (with_reducible repeat (first | refine kdN ?_ _ | refine kd1 ?_ | refine kal ?_ _)); exact BK255.out) hb); have n6_ := Azz.mk (blk_below (g := gb266) (o := .cells #[.int .i64 t260, .int .i64 t261, .int .i64 t262, .string t263, .int .i64 t264] 36 (0, 0)) (by (with_reducible repeat (first | refine kdN ?_ _ | refine kd1 ?_ | refine kal ?_ _)); exact BK266.out) hb); have n7_ := Azz.mk (Kd.C_below (by repeat (first | (with_reducible exact HR270.out) | (with_reducible refine Kd.C_alloc ?_ _) | (with_reducible refine Kd.C_drewN ?_ _) | (with_reducible refine Kd.C_drew ?_) | exact HR270.out)) hb); have n8_ := Azz.mk (below_step (by repeat (first | (with_reducible first | exact HB.out | apply bal | apply pbN | apply bd1 | refine bst ?_ GE240.out | refine bst ?_ GE255.out | refine bst ?_ GE266.out) | exact HB.out)) hb); clear HO232; clear HO243; clear HO247; clear HO258; clear BK240; clear BK255; clear BK266; clear HR270; clear HB; have HO232 := n0_; have HO243 := n1_; have HO247 := n2_; have HO258 := n3_; have BK240 := n4_; have BK255 := n5_; have BK266 := n6_; have HR270 := n7_; have HB := n8_; clear n0_ n1_ n2_ n3_ n4_ n5_ n6_ n7_ n8_; (try clear hb); (try clear hb2); (try clear hk); (try clear hi)))
               go_ret
               exact ⟨by first | rfl | (simp [errW_none, errW_some] <;> rfl) | (simp [*, errW_none, errW_some] <;> rfl), by repeat (first | (with_reducible first | exact HB.out | apply bal | apply pbN | apply bd1 | refine bst ?_ GE240.out | refine bst ?_ GE255.out | refine bst ?_ GE266.out) | exact HB.out)⟩
              ·rw [if_neg c24] at H
               exact absurd H (by simp)
             ·rw [if_neg c22] at H
              exact absurd H (by simp)
            ·rw [if_neg c20] at H
             exact absurd H (by simp)
           ·rw [if_neg c19] at H
            exact absurd H (by simp)
          ·rw [if_neg c18] at H
           exact absurd H (by simp)
         ·rw [if_neg c17] at H
          exact absurd H (by simp)
        ·rw [if_neg c16] at H
         exact absurd H (by simp)
       ·rw [if_neg c15] at H
        exact absurd H (by simp)
      ·rw [if_neg c14] at H
       exact absurd H (by simp)
     ·rw [if_neg c13] at H
      exact absurd H (by simp)
    ·rw [if_neg c12] at H
     exact absurd H (by simp)
   ·rw [if_neg c11] at H
    exact absurd H (by simp)
  ·rw [if_neg c10] at H
   exact absurd H (by simp)
 ·rw [if_neg c6] at H
  exact absurd H (by simp)

end Go.Proofs.Ytgeheedfmdlefaa.PF
end

section
namespace Go.Proofs.Ytgeheedfmdlefaa.PF
open Go.RowKit Go.Proofs.YtgeheedfmdlefaaW.PrintWords Go.Proofs.YtgeheedfmdlefaaW.PrintLast Go.Proofs.YtgeheedfmdlefaaW.PrintMore Go.Proofs.Ytgeheedfmdlefaa.Conv
attribute [local go_sem] max2_int min2_int max_two min_two max_three min_three max_four min_four   -- for this text's walks alone
set_option linter.unusedVariables false
set_option linter.unusedSimpArgs false

/-! ### rf_Sum: function 24 -/
mutual
def rf_Sum.l0 : Nat → List Int → Int → Int → Option (Int)
 | 0, _, _, _ => none
 | k + 1, x0, x3, x4 => if x4 < (x0.length : Int) then (if 0 ≤ x4 then (rf_Sum.l1 k x0 (Go.bits .xor .u32 x3 ((rd x0 x4) % 4294967296)) x4 0) else (none)) else (some (Go.bits .xor .u32 x3 4294967295))
def rf_Sum.l1 : Nat → List Int → Int → Int → Int → Option (Int)
 | 0, _, _, _, _ => none
 | k + 1, x0, x3, x4, x5 => if x5 < 8 then (if (Int.tmod x3 2) = 1 then (rf_Sum.l1 k x0 (Go.bits .xor .u32 ((Int.tdiv x3 2) % 4294967296) 3988292384) x4 (wrap64 (x5 + 1))) else (rf_Sum.l1 k x0 ((Int.tdiv x3 2) % 4294967296) x4 (wrap64 (x5 + 1)))) else (rf_Sum.l0 k x0 x3 (wrap64 (x4 + 1)))
end
def rf_Sum.f (k : Nat) (l0 : List Int) : Option (Int) := rf_Sum.l0 k l0 4294967295 0
theorem rf_Sum.mono_l : ∀ k, (∀ y0 y1 y2, LeO (rf_Sum.l0 k y0 y1 y2) (rf_Sum.l0 (k + 1) y0 y1 y2)) ∧ (∀ y0 y1 y2 y3, LeO (rf_Sum.l1 k y0 y1 y2 y3) (rf_Sum.l1 (k + 1) y0 y1 y2 y3))
 | 0 => ⟨fun _ _ _ r h => by simp [rf_Sum.l0] at h, fun _ _ _ _ r h => by simp [rf_Sum.l1] at h⟩
 | k + 1 => by
  obtain ⟨ih0, ih1⟩ := rf_Sum.mono_l k
  refine ⟨?_, ?_⟩
  ·intro y0 y1 y2
   unfold rf_Sum.l0
   repeat' first
   | (with_reducible exact ih0 _ _ _)
   | (with_reducible exact ih1 _ _ _ _)
   | (with_reducible exact LeO.refl _)
   | (with_reducible exact LeO.none _)
   | (with_reducible refine LeO.ite ?_ ?_)
   | (with_reducible refine LeO.bind ?_ (fun _ => ?_))
   | exact ih0 _ _ _
   | exact ih1 _ _ _ _
   | exact LeO.none _
   | refine LeO.ite ?_ ?_
   | refine LeO.bind ?_ (fun _ => ?_)
  ·intro y0 y1 y2 y3
   unfold rf_Sum.l1
   repeat' first
   | (with_reducible exact ih0 _ _ _)
   | (with_reducible exact ih1 _ _ _ _)
   | (with_reducible exact LeO.refl _)
   | (with_reducible exact LeO.none _)
   | (with_reducible refine LeO.ite ?_ ?_)
   | (with_reducible refine LeO.bind ?_ (fun _ => ?_))
   | exact ih0 _ _ _
   | exact ih1 _ _ _ _
   | exact LeO.none _
   | refine LeO.ite ?_ ?_
   | refine LeO.bind ?_ (fun _ => ?_)
theorem rf_Sum.mono : ∀ a0 k, LeO (rf_Sum.f k a0) (rf_Sum.f (k + 1) a0) := by
 intro a0 k
 obtain ⟨ih0, ih1⟩ := rf_Sum.mono_l k
 unfold rf_Sum.f
 repeat' first
   | (with_reducible exact ih0 _ _ _)
   | (with_reducible exact ih1 _ _ _ _)
   | (with_reducible exact LeO.refl _)
   | (with_reducible exact LeO.none _)
   | (with_reducible refine LeO.ite ?_ ?_)
   | (with_reducible refine LeO.bind ?_ (fun _ => ?_))
   | exact ih0 _ _ _
   | exact ih1 _ _ _ _
   | exact LeO.none _
   | refine LeO.ite ?_ ?_
   | refine LeO.bind ?_ (fun _ => ?_)
set_option maxHeartbeats 8000000 in
set_option maxRecDepth 100000 in
theorem rf_Sum.calls (k : Nat) (A0 : Option Addr) (c0 : Nat) (l0 : List Int) (r : Int) (w : World) (hr0 : Kd.C (Kd.int .u8) w A0 l0.length l0) (hc0 : l0.length ≤ c0) (h : rf_Sum.f k l0 = some r) :
  Calls Try.prog 24 #[.slice A0 l0.length c0] w fun e w' => e = .returned (.int .u32 r) ∧ Drawn0 w w' := by
 have HR0 := Azz.mk hr0
 have HC0 := Azz.mk hc0
 clear hr0 hc0
 have H : (rf_Sum.l0 k l0 4294967295 0) = some r := h
 clear h
 have H' := Azz.mk H
 clear H
 go_enter Try.func24, Try.ntmps24
 go_wp2
 go_loopg [3, 4] k (fun kq v3 v4 w' => ∃ (x3_1 : Int) (x4_1 : Int), v3 = .int .u32 x3_1 ∧ v4 = .int .i64 x4_1 ∧ Azz (rf_Sum.l0 kq l0 x3_1 x4_1 = some r) ∧ Azz (kq ≤ k) ∧ Drawn0 w w')
 case atStart => exact ⟨(4294967295), (0), (by first | rfl | (simp; done) | (simp [*]; done)), (by first | rfl | (simp; done) | (simp [*]; done)), H', ⟨Nat.le_refl _⟩, by repeat (first | exact Drawn0.refl _ | apply Drawn0.step)⟩
 case round =>
  clear H'
  obtain ⟨x3_1, x4_1, rfl, rfl, HA, HK1, ⟨m1, rfl⟩⟩ := hrel
  cases gk with
  | zero => exact absurd HA.out (by simp [rf_Sum.l0])
  | succ k1 =>
   have H := HA.out
   clear HA
   simp only [rf_Sum.l0] at H
   by_cases c2 : x4_1 < (l0.length : Int)
   ·rw [if_pos c2] at H
    have c2b0 : decide (x4_1 < (l0.length : Int)) = true := decide_eq_true c2
    clear c2
    by_cases c3 : 0 ≤ x4_1
    ·rw [if_pos c3] at H
     have c3b0 : decide (0 ≤ x4_1) = true := decide_eq_true c3
     clear c3
     have H' := Azz.mk H
     clear H
     have p276 : 0 ≤ (x4_1 : Int) := of_decide_eq_true (by first | (with_reducible assumption) | assumption)
     have q276 : x4_1 < (l0.length : Int) := of_decide_eq_true (by first | (with_reducible assumption) | assumption)
     obtain ⟨ad276, e276, hx276_0⟩ := Kd.at_int HR0.out x4_1 p276 q276
     cases e276
     replace p276 := eq_true p276
     replace q276 := eq_true q276
     go_wp2
     go_loopg [3, 5] k1 (fun kq v3 v5 w' => ∃ (x3_2 : Int) (x5_2 : Int), v3 = .int .u32 x3_2 ∧ v5 = .int .i64 x5_2 ∧ Azz (rf_Sum.l1 kq l0 x3_2 x4_1 x5_2 = some r) ∧ Azz (kq ≤ k1) ∧ Drawn0 w w')
     case atStart => exact ⟨(Go.bits .xor .u32 x3_1 ((rd l0 x4_1) % 4294967296)), (0), (by first | rfl | (simp; done) | (simp [*]; done)), (by first | rfl | (simp; done) | (simp [*]; done)), H', ⟨Nat.le_refl _⟩, by repeat (first | exact Drawn0.refl _ | apply Drawn0.step)⟩
     case round =>
      clear H'
      try clear c2
      try clear c2b0
      try clear p2
      try clear q2
      try clear hx2
      try clear c3
      try clear c3b0
      try clear hx276_0
      try clear p276
      try clear q276
      obtain ⟨x3_2, x5_2, rfl, rfl, HA, HK2, ⟨m2, rfl⟩⟩ := hrel
      cases gk with
      | zero => exact absurd HA.out (by simp [rf_Sum.l1])
      | succ k2 =>
       have H := HA.out
       clear HA
       simp only [rf_Sum.l1] at H
       by_cases c4 : x5_2 < 8
       ·rw [if_pos c4] at H
        have c4b0 : decide (x5_2 < 8) = true := decide_eq_true c4
        clear c4
        by_cases c5 : (Int.tmod x3_2 2) = 1
        ·rw [if_pos c5] at H
         have c5b0 : ((Int.tmod x3_2 2) == 1) = true := beq_iff_eq.mpr c5
         have c5b1 : ((Int.tmod x3_2 2) != 1) = false := bne_eq_false_iff_eq.mpr c5
         clear c5
         have H' := Azz.mk H
         clear H
         go_wp2
         go_roundg k2
         case measure => have := HK1.out; have := HK2.out; omega
         case rel => exact ⟨(Go.bits .xor .u32 ((Int.tdiv x3_2 2) % 4294967296) 3988292384), (wrap64 (x5_2 + 1)), (by first | rfl | (simp; done) | (simp [*]; done)), (by first | rfl | (simp; done) | (simp [*]; done)), H', ⟨by have := HK1.out; have := HK2.out; omega⟩, by repeat (first | exact Drawn0.refl _ | apply Drawn0.step)⟩
        ·rw [if_neg c5] at H
         have c5b0 : ((Int.tmod x3_2 2) == 1) = false := beq_eq_false_iff_ne.mpr c5
         have c5b1 : ((Int.tmod x3_2 2) != 1) = true := bne_iff_ne.mpr c5
         have H' := Azz.mk H
         clear H
         go_wp2
         go_roundg k2
         case measure => have := HK1.out; have := HK2.out; omega
         case rel => exact ⟨((Int.tdiv x3_2 2) % 4294967296), (wrap64 (x5_2 + 1)), (by first | rfl | (simp; done) | (simp [*]; done)), (by first | rfl | (simp; done) | (simp [*]; done)), H', ⟨by have := HK1.out; have := HK2.out; omega⟩, by repeat (first | exact Drawn0.refl _ | apply Drawn0.step)⟩
       ·rw [if_neg c4] at H
        have c4b0 : decide (x5_2 < 8) = false := decide_eq_false c4
        clear c4
        have H' := Azz.mk H
        clear H
        go_wp2
        go_roundg k2
        case measure => have := HK1.out; have := HK2.out; omega
        case rel => exact ⟨(x3_2), (wrap64 (x4_1 + 1)), (by first | rfl | (simp; done) | (simp [*]; done)), (by first | rfl | (simp; done) | (simp [*]; done)), H', ⟨by have := HK1.out; have := HK2.out; omega⟩, by repeat (first | exact Drawn0.refl _ | apply Drawn0.step)⟩
    ·rw [if_neg c3] at H
     exact absurd H (by simp)
   ·rw [if_neg c2] at H
    have c2b0 : decide (x4_1 < (l0.length : Int)) = false := decide_eq_false c2
    clear c2
    obtain rfl := Option.some.inj H
    go_wp2
    go_ret
    exact ⟨by first | rfl | (simp; done) | (simp [*]; done), by repeat (first | exact Drawn0.refl _ | apply Drawn0.step)⟩

end Go.Proofs.Ytgeheedfmdlefaa.PF
end
