/- The functions that the law runs, each as a Lean function with its proof; written and laid together by a program for this claim. -/
import Derived.Test.YtgeheedfmdlefaaFrameSealedFns0
import Derived.Test.YtgeheedfmdlefaaFrameSealedFns2
section
namespace Go.Proofs.Ytgeheedfmdlefaa.PF
open Go.RowKit Go.Proofs.YtgeheedfmdlefaaW.PrintWords Go.Proofs.YtgeheedfmdlefaaW.PrintLast Go.Proofs.YtgeheedfmdlefaaW.PrintMore Go.Proofs.Ytgeheedfmdlefaa.Conv
attribute [local go_sem] max2_int min2_int max_two min_two max_three min_three max_four min_four   -- for this text's walks alone
set_option linter.unusedVariables false
set_option linter.unusedSimpArgs false

/-! ### rf_ReadControl: function 21 -/
def rf_ReadControl.j0 : Nat → List Int → Bool → Option (Int × Int × Int × Int × Int × Int)
 | 0, _, _ => none
 | k + 1, x0, x19 => if x19 = true then (some (0, 0, 0, 0, 0, 2)) else ((rf_sum.f k x0).bind fun t404 => (if t404 = true then (if 2 < (x0.length : Int) then (if 3 < (x0.length : Int) then (if 12 ≤ (x0.length : Int) then ((rf_value.f k ((x0.take 12).drop 4)).bind fun t411 => (if 16 ≤ (x0.length : Int) then ((rf_value.f k ((x0.take 16).drop 12)).bind fun t416 => (if 24 ≤ (x0.length : Int) then ((rf_value.f k ((x0.take 24).drop 16)).bind fun t421 => ((rf_RightControl.f (wrap64 (rd x0 2)) (wrap64 (rd x0 3)) (wrap64 (t411)) ((t416) % 4294967296) (wrap64 (t421))).bind fun t423 => (if t423 = true then ((rf_Control.f k (wrap64 (rd x0 2)) (wrap64 (rd x0 3)) (wrap64 (t411)) ((t416) % 4294967296) (wrap64 (t421))).bind fun t424 => ((rf_same.f t424 x0).bind fun t427 => (if t427 = true then (some (wrap64 (rd x0 2), wrap64 (rd x0 3), wrap64 (t411), (t416) % 4294967296, wrap64 (t421), 0)) else (some (0, 0, 0, 0, 0, 2))))) else (some (0, 0, 0, 0, 0, 2))))) else (none))) else (none))) else (none)) else (none)) else (none)) else (some (0, 0, 0, 0, 0, 8))))
def rf_ReadControl.f (k : Nat) (l0 : List Int) : Option (Int × Int × Int × Int × Int × Int) := if (l0.length : Int) = 34 then (if 0 < (l0.length : Int) then (if (rd l0 0) = 137 then (if 1 < (l0.length : Int) then (rf_ReadControl.j0 k l0 ((rd l0 1) != 29)) else (none)) else (rf_ReadControl.j0 k l0 true)) else (none)) else (rf_ReadControl.j0 k l0 true)
theorem rf_ReadControl.mono_l : ∀ k, (∀ y0 y1, LeO (rf_ReadControl.j0 k y0 y1) (rf_ReadControl.j0 (k + 1) y0 y1))
 | 0 => fun _ _ r h => by simp [rf_ReadControl.j0] at h
 | k + 1 => by
  have ih0 := rf_ReadControl.mono_l k
  ·intro y0 y1
   unfold rf_ReadControl.j0
   repeat' first
   | (with_reducible exact ih0 _ _)
   | (with_reducible exact rf_Control.mono _ _ _ _ _ _)
   | (with_reducible exact rf_sum.mono _ _)
   | (with_reducible exact rf_value.mono _ _)
   | (with_reducible exact LeO.refl _)
   | (with_reducible exact LeO.none _)
   | (with_reducible refine LeO.ite ?_ ?_)
   | (with_reducible refine LeO.bind ?_ (fun _ => ?_))
   | exact ih0 _ _
   | exact rf_Control.mono _ _ _ _ _ _
   | exact rf_sum.mono _ _
   | exact rf_value.mono _ _
   | exact LeO.none _
   | refine LeO.ite ?_ ?_
   | refine LeO.bind ?_ (fun _ => ?_)
theorem rf_ReadControl.mono : ∀ a0 k, LeO (rf_ReadControl.f k a0) (rf_ReadControl.f (k + 1) a0) := by
 intro a0 k
 have ih0 := rf_ReadControl.mono_l k
 unfold rf_ReadControl.f
 repeat' first
   | (with_reducible exact ih0 _ _)
   | (with_reducible exact rf_Control.mono _ _ _ _ _ _)
   | (with_reducible exact rf_sum.mono _ _)
   | (with_reducible exact rf_value.mono _ _)
   | (with_reducible exact LeO.refl _)
   | (with_reducible exact LeO.none _)
   | (with_reducible refine LeO.ite ?_ ?_)
   | (with_reducible refine LeO.bind ?_ (fun _ => ?_))
   | exact ih0 _ _
   | exact rf_Control.mono _ _ _ _ _ _
   | exact rf_sum.mono _ _
   | exact rf_value.mono _ _
   | exact LeO.none _
   | refine LeO.ite ?_ ?_
   | refine LeO.bind ?_ (fun _ => ?_)
def rf_ReadControl.T5 : Bool × List (List Nat × List Nat) := (true, [([], []), ([0], [0]), ([1], [1]), ([2], [2]), ([], []), ([4], [4]), ([5], [5]), ([6], [6]), ([], []), ([8], [8]), ([9], [9]), ([10], [10]), ([], []), ([12], [12]), ([13, 10], [13]), ([14], [14]), ([], []), ([16], [16]), ([17, 14], [17]), ([18], [18]), ([3, 7, 11, 15, 19], [3, 7, 11, 15, 19]), ([], []), ([21, 20, 18, 0, 1, 2, 3, 4, 5, 6, 7, 8, 9, 10, 11, 12, 13, 14, 15, 16, 17, 18, 19, 20, 21], [20, 21])])
def rf_ReadControl.B5 : List Nat := [0, 1, 3, 7, 0, 16, 48, 112, 0, 256, 768, 1792, 0, 4096, 14080, 30464, 0, 65536, 227072, 489216, 1048575, 0, 4194303]
theorem rf_ReadControl.tab5 : rtab .any (opsOf Try.f21 5) = rf_ReadControl.T5 := by kernel_rfl
theorem rf_ReadControl.bits5 : waitsOk rf_ReadControl.T5.2 rf_ReadControl.B5 = true := by kernel_rfl
set_option maxHeartbeats 8000000 in
set_option maxRecDepth 100000 in
theorem rf_ReadControl.calls (k : Nat) (A0 : Option Addr) (c0 : Nat) (l0 : List Int) (r1 : Int) (r2 : Int) (r3 : Int) (r4 : Int) (r5 : Int) (r6 : Int) (w : World) (hr0 : Kd.C (Kd.int .u8) w A0 l0.length l0) (hc0 : l0.length ≤ c0) (h : rf_ReadControl.f k l0 = some (r1, r2, r3, r4, r5, r6)) :
  Calls Try.prog 21 #[.slice A0 l0.length c0] w fun e w' => e = .returned (.tuple #[.agg #[.int .i64 r1, .int .i64 r2, .int .i64 r3, .int .u32 r4, .int .i64 r5], .int .i64 r6]) ∧ Below w.heap.size w w' := by
 have hu24 := Try.underlying24
 have HR0 := Azz.mk hr0
 have HC0 := Azz.mk hc0
 clear hr0 hc0
 have HB := Azz.mk (Below.refl w.heap.size w)
 have H : (if (l0.length : Int) = 34 then (if 0 < (l0.length : Int) then (if (rd l0 0) = 137 then (if 1 < (l0.length : Int) then (rf_ReadControl.j0 k l0 ((rd l0 1) != 29)) else (none)) else (rf_ReadControl.j0 k l0 true)) else (none)) else (rf_ReadControl.j0 k l0 true)) = some (r1, r2, r3, r4, r5, r6) := h
 clear h
 have HC2 := Azz.mk H
 clear H
 go_enter Try.func21, Try.ntmps21
 go_upto_region 1 with (first | ((with_reducible refine gate_dst (N := 2) rfl ?_); refine box_event ?hg (N := 2) ?hd (cs := #[.int .i64 0, .int .i64 0, .int .i64 0, .int .u32 0, .int .i64 0]) (t := 24) ?hr ?_; (case hd => rfl); (case hg => rfl); (case hr => first | (go_simp; done) | (go_simp; rfl)); intro gb401 hg w3 hbox hb; have n0_ := Azz.mk (below_step (by repeat (first | (with_reducible first | exact HB.out | apply bal | apply pbN | apply bd1) | exact HB.out)) hb); have n1_ := Azz.mk (hbox); have n2_ := Azz.mk ((by rw [hg]; exact (below_size (by repeat (first | (with_reducible first | exact HB.out | apply bal | apply pbN | apply bd1) | exact HB.out))) : w.heap.size ≤ gb401)); have n3_ := Azz.mk ((by rw [hg]; exact (below_size (by repeat (first | (with_reducible first | exact HB.out | apply bal | apply pbN | apply bd1) | exact HB.out))) : w.heap.size ≤ gb401)); clear HB; have HB := n0_; have BK401 := n1_; have GW401 := n2_; have GE401 := n3_; clear n0_ n1_ n2_ n3_; clear hb hbox hg))
 (try simp only [Act.put, List.setIfInBounds_toArray, List.set_cons_zero, List.set_cons_succ])
 go_cut [19] (fun v19 wc => ∃ (kq : Nat) (x19_1 : Bool), v19 = .bool x19_1 ∧ Azz (rf_ReadControl.j0 kq l0 x19_1 = some (r1, r2, r3, r4, r5, r6)) ∧ Azz (kq ≤ k) ∧ Azz (wc.heap[gb401]? = some (.cells #[.int .i64 0, .int .i64 0, .int .i64 0, .int .u32 0, .int .i64 0] 24 (0, 0))) ∧ Azz (Below w.heap.size w wc))
 case first =>
  have H := HC2.out
  clear HC2
  by_cases c4 : (l0.length : Int) = 34
  ·rw [if_pos c4] at H
   have c4b0 : ((l0.length : Int) == 34) = true := beq_iff_eq.mpr c4
   have c4b1 : ((l0.length : Int) != 34) = false := bne_eq_false_iff_eq.mpr c4
   clear c4
   (first | rw [c4b0] | (simp only [i64_w, i32_w]; rw [c4b0]) | skip)
   by_cases c5 : 0 < (l0.length : Int)
   ·rw [if_pos c5] at H
    have c5b0 : decide (0 < (l0.length : Int)) = true := decide_eq_true c5
    have c5b1 : decide (0 < l0.length) = true := decide_eq_true (by omega)
    clear c5
    by_cases c6 : (rd l0 0) = 137
    ·rw [if_pos c6] at H
     have c6b0 : ((rd l0 0) == 137) = true := beq_iff_eq.mpr c6
     have c6b1 : ((rd l0 0) != 137) = false := bne_eq_false_iff_eq.mpr c6
     clear c6
     by_cases c7 : 1 < (l0.length : Int)
     ·rw [if_pos c7] at H
      have c7b0 : decide (1 < (l0.length : Int)) = true := decide_eq_true c7
      have c7b1 : decide (1 < l0.length) = true := decide_eq_true (by omega)
      clear c7
      have H' := Azz.mk H
      clear H
      have p402 : 0 ≤ (0 : Int) := (by omega)
      have q402 : 0 < (l0.length : Int) := of_decide_eq_true (by first | (with_reducible assumption) | assumption)
      obtain ⟨ad402, e402, hx402_0⟩ := Kd.at_int HR0.out 0 p402 q402
      cases e402
      have qi402 : (0 < l0.length) = True := eq_true (by omega)
      (try rw [show ((0 : Int)).toNat = 0 from rfl] at hx402_0)
      (try rw [Addr.add_zero'] at hx402_0)
      replace hx402_0 := (HB.out.cell (World.block_lt_of_cell? w _ hx402_0)).trans hx402_0
      replace p402 := eq_true p402
      replace q402 := eq_true q402
      have p403 : 0 ≤ (1 : Int) := (by omega)
      have q403 : 1 < (l0.length : Int) := of_decide_eq_true (by first | (with_reducible assumption) | assumption)
      obtain ⟨ad403, e403, hx403_0⟩ := Kd.at_int HR0.out 1 p403 q403
      obtain rfl : ad402 = ad403 := (by injection e403)
      (try simp only [show (1 : Int).toNat = 1 from rfl, Nat.reduceMul, Nat.reduceEqDiff, Go.Addr.add, ↓reduceIte] at hx403_0)
      have qi403 : (1 < l0.length) = True := eq_true (by omega)
      (try rw [show ((1 : Int)).toNat = 1 from rfl] at hx403_0)
      replace hx403_0 := (HB.out.cell (World.block_lt_of_cell? w _ hx403_0)).trans hx403_0
      replace p403 := eq_true p403
      replace q403 := eq_true q403
      go_wp2
      go_meet
      case rel => exact ⟨_, (((rd l0 1) != 29)), (by first | rfl | (simp; done) | (simp [*]; done)), H', ⟨by first | omega | exact Nat.le_refl _⟩, ⟨by (with_reducible repeat (first | refine kdN ?_ _ | refine kd1 ?_ | refine kal ?_ _)); exact BK401.out⟩, ⟨by repeat (first | (with_reducible first | exact HB.out | apply bal | apply pbN | apply bd1 | refine bst ?_ GE401.out) | exact HB.out)⟩⟩
     ·rw [if_neg c7] at H
      exact absurd H (by simp)
    ·rw [if_neg c6] at H
     have c6b0 : ((rd l0 0) == 137) = false := beq_eq_false_iff_ne.mpr c6
     have c6b1 : ((rd l0 0) != 137) = true := bne_iff_ne.mpr c6
     have H' := Azz.mk H
     clear H
     have p402 : 0 ≤ (0 : Int) := (by omega)
     have q402 : 0 < (l0.length : Int) := of_decide_eq_true (by first | (with_reducible assumption) | assumption)
     obtain ⟨ad402, e402, hx402_0⟩ := Kd.at_int HR0.out 0 p402 q402
     cases e402
     have qi402 : (0 < l0.length) = True := eq_true (by omega)
     (try rw [show ((0 : Int)).toNat = 0 from rfl] at hx402_0)
     (try rw [Addr.add_zero'] at hx402_0)
     replace hx402_0 := (HB.out.cell (World.block_lt_of_cell? w _ hx402_0)).trans hx402_0
     replace p402 := eq_true p402
     replace q402 := eq_true q402
     go_wp2
     go_meet
     case rel => exact ⟨_, (true), (by first | rfl | (simp; done) | (simp [*]; done)), H', ⟨by first | omega | exact Nat.le_refl _⟩, ⟨by (with_reducible repeat (first | refine kdN ?_ _ | refine kd1 ?_ | refine kal ?_ _)); exact BK401.out⟩, ⟨by repeat (first | (with_reducible first | exact HB.out | apply bal | apply pbN | apply bd1 | refine bst ?_ GE401.out) | exact HB.out)⟩⟩
   ·rw [if_neg c5] at H
    exact absurd H (by simp)
  ·rw [if_neg c4] at H
   have c4b0 : ((l0.length : Int) == 34) = false := beq_eq_false_iff_ne.mpr c4
   have c4b1 : ((l0.length : Int) != 34) = true := bne_iff_ne.mpr c4
   (first | rw [c4b0] | (simp only [i64_w, i32_w]; rw [c4b0]) | skip)
   have H' := Azz.mk H
   clear H
   go_wp2
   go_meet
   case rel => exact ⟨_, (true), (by first | rfl | (simp; done) | (simp [*]; done)), H', ⟨by first | omega | exact Nat.le_refl _⟩, ⟨by (with_reducible repeat (first | refine kdN ?_ _ | refine kd1 ?_ | refine kal ?_ _)); exact BK401.out⟩, ⟨by repeat (first | (with_reducible first | exact HB.out | apply bal | apply pbN | apply bd1 | refine bst ?_ GE401.out) | exact HB.out)⟩⟩
 case rest =>
  clear HC2
  try clear c2
  try clear p2
  try clear c4
  try clear c4b0
  try clear c4b1
  try clear p4
  try clear q4
  try clear hx4
  try clear qi4
  try clear c5
  try clear c5b0
  try clear c5b1
  try clear c6
  try clear c6b0
  try clear c6b1
  try clear c7
  try clear c7b0
  try clear c7b1
  try clear hx402_0
  try clear hx403_0
  try clear p402
  try clear p403
  try clear q402
  try clear q403
  obtain ⟨kq, x19_1, rfl, HA, HJ1, BK401, HB⟩ := hcut
  cases kq with
  | zero => exact absurd HA.out (by simp [rf_ReadControl.j0])
  | succ kj1 =>
   have H := HA.out
   clear HA
   simp only [rf_ReadControl.j0] at H
   by_cases c8 : x19_1 = true
   ·subst c8
    have H1 : (some (0, 0, 0, 0, 0, 2)) = some (r1, r2, r3, r4, r5, r6) := by rw [if_pos rfl] at H; exact H
    clear H
    have H := H1
    clear H1
    simp only [Option.some.injEq, Prod.mk.injEq] at H
    obtain ⟨rfl, rfl, rfl, rfl, rfl, rfl⟩ := H
    have hcz9_0 : World.cell? _ ⟨gb401, 0, none⟩ = some (.int .i64 0) := (kcl BK401.out 0).trans rfl
    have hcz9_1 : World.cell? _ ⟨gb401, 1, none⟩ = some (.int .i64 0) := (kcl BK401.out 1).trans rfl
    have hcz9_2 : World.cell? _ ⟨gb401, 2, none⟩ = some (.int .i64 0) := (kcl BK401.out 2).trans rfl
    have hcz9_3 : World.cell? _ ⟨gb401, 3, none⟩ = some (.int .u32 0) := (kcl BK401.out 3).trans rfl
    have hcz9_4 : World.cell? _ ⟨gb401, 4, none⟩ = some (.int .i64 0) := (kcl BK401.out 4).trans rfl
    have hfz9_0 := kfz BK401.out 0
    have hfz9_1 := kfz BK401.out 1
    have hfz9_2 := kfz BK401.out 2
    have hfz9_3 := kfz BK401.out 3
    have hfz9_4 := kfz BK401.out 4
    go_wp2
    refine bodyPost_ret (results_ct rfl _ _ gb401 24 #[.int .i64 0, .int .i64 0, .int .i64 0, .int .u32 0, .int .i64 0] (0, 0) _ rfl (by (with_reducible repeat (first | refine kdN ?_ _ | refine kd1 ?_ | refine kal ?_ _)); refine blk_put (cs := #[.int .i64 0, .int .i64 0, .int .i64 0, .int .u32 0, .int .i64 0]) ?_ 4 _ rfl; (with_reducible repeat (first | refine kdN ?_ _ | refine kd1 ?_ | refine kal ?_ _)); refine blk_put (cs := #[.int .i64 0, .int .i64 0, .int .i64 0, .int .u32 0, .int .i64 0]) ?_ 3 _ rfl; (with_reducible repeat (first | refine kdN ?_ _ | refine kd1 ?_ | refine kal ?_ _)); refine blk_put (cs := #[.int .i64 0, .int .i64 0, .int .i64 0, .int .u32 0, .int .i64 0]) ?_ 2 _ rfl; (with_reducible repeat (first | refine kdN ?_ _ | refine kd1 ?_ | refine kal ?_ _)); refine blk_put (cs := #[.int .i64 0, .int .i64 0, .int .i64 0, .int .u32 0, .int .i64 0]) ?_ 1 _ rfl; (with_reducible repeat (first | refine kdN ?_ _ | refine kd1 ?_ | refine kal ?_ _)); refine blk_put (cs := #[.int .i64 0, .int .i64 0, .int .i64 0, .int .u32 0, .int .i64 0]) ?_ 0 _ rfl; (with_reducible repeat (first | refine kdN ?_ _ | refine kd1 ?_ | refine kal ?_ _)); exact BK401.out) Try.underlying24 rfl (by kernel_rfl)) rfl ?_
    exact ⟨by first | rfl | (simp [errW_none, errW_some] <;> rfl) | (simp [*, errW_none, errW_some] <;> rfl), by repeat (first | (with_reducible first | exact HB.out | apply bal | apply pbN | apply bd1 | refine bst ?_ GE401.out) | exact HB.out)⟩
   ·replace c8 := Bool.eq_false_iff.mpr c8
    subst c8
    have H1 : ((rf_sum.f kj1 l0).bind fun t404 => (if t404 = true then (if 2 < (l0.length : Int) then (if 3 < (l0.length : Int) then (if 12 ≤ (l0.length : Int) then ((rf_value.f kj1 ((l0.take 12).drop 4)).bind fun t411 => (if 16 ≤ (l0.length : Int) then ((rf_value.f kj1 ((l0.take 16).drop 12)).bind fun t416 => (if 24 ≤ (l0.length : Int) then ((rf_value.f kj1 ((l0.take 24).drop 16)).bind fun t421 => ((rf_RightControl.f (wrap64 (rd l0 2)) (wrap64 (rd l0 3)) (wrap64 (t411)) ((t416) % 4294967296) (wrap64 (t421))).bind fun t423 => (if t423 = true then ((rf_Control.f kj1 (wrap64 (rd l0 2)) (wrap64 (rd l0 3)) (wrap64 (t411)) ((t416) % 4294967296) (wrap64 (t421))).bind fun t424 => ((rf_same.f t424 l0).bind fun t427 => (if t427 = true then (some (wrap64 (rd l0 2), wrap64 (rd l0 3), wrap64 (t411), (t416) % 4294967296, wrap64 (t421), 0)) else (some (0, 0, 0, 0, 0, 2))))) else (some (0, 0, 0, 0, 0, 2))))) else (none))) else (none))) else (none)) else (none)) else (none)) else (some (0, 0, 0, 0, 0, 8)))) = some (r1, r2, r3, r4, r5, r6) := by rw [if_neg (show ¬ (false = true) by decide)] at H; exact H
    clear H
    have H := H1
    clear H1
    replace H := Option.bind_eq_some_iff.mp H
    obtain ⟨t404, A100, H⟩ := H
    replace H : (if t404 = true then (if 2 < (l0.length : Int) then (if 3 < (l0.length : Int) then (if 12 ≤ (l0.length : Int) then ((rf_value.f kj1 ((l0.take 12).drop 4)).bind fun t411 => (if 16 ≤ (l0.length : Int) then ((rf_value.f kj1 ((l0.take 16).drop 12)).bind fun t416 => (if 24 ≤ (l0.length : Int) then ((rf_value.f kj1 ((l0.take 24).drop 16)).bind fun t421 => ((rf_RightControl.f (wrap64 (rd l0 2)) (wrap64 (rd l0 3)) (wrap64 (t411)) ((t416) % 4294967296) (wrap64 (t421))).bind fun t423 => (if t423 = true then ((rf_Control.f kj1 (wrap64 (rd l0 2)) (wrap64 (rd l0 3)) (wrap64 (t411)) ((t416) % 4294967296) (wrap64 (t421))).bind fun t424 => ((rf_same.f t424 l0).bind fun t427 => (if t427 = true then (some (wrap64 (rd l0 2), wrap64 (rd l0 3), wrap64 (t411), (t416) % 4294967296, wrap64 (t421), 0)) else (some (0, 0, 0, 0, 0, 2))))) else (some (0, 0, 0, 0, 0, 2))))) else (none))) else (none))) else (none)) else (none)) else (none)) else (some (0, 0, 0, 0, 0, 8))) = some (r1, r2, r3, r4, r5, r6) := H
    have A10 := Azz.mk A100
    clear A100
    by_cases c11 : t404 = true
    ·subst c11
     have H1 : (if 2 < (l0.length : Int) then (if 3 < (l0.length : Int) then (if 12 ≤ (l0.length : Int) then ((rf_value.f kj1 ((l0.take 12).drop 4)).bind fun t411 => (if 16 ≤ (l0.length : Int) then ((rf_value.f kj1 ((l0.take 16).drop 12)).bind fun t416 => (if 24 ≤ (l0.length : Int) then ((rf_value.f kj1 ((l0.take 24).drop 16)).bind fun t421 => ((rf_RightControl.f (wrap64 (rd l0 2)) (wrap64 (rd l0 3)) (wrap64 (t411)) ((t416) % 4294967296) (wrap64 (t421))).bind fun t423 => (if t423 = true then ((rf_Control.f kj1 (wrap64 (rd l0 2)) (wrap64 (rd l0 3)) (wrap64 (t411)) ((t416) % 4294967296) (wrap64 (t421))).bind fun t424 => ((rf_same.f t424 l0).bind fun t427 => (if t427 = true then (some (wrap64 (rd l0 2), wrap64 (rd l0 3), wrap64 (t411), (t416) % 4294967296, wrap64 (t421), 0)) else (some (0, 0, 0, 0, 0, 2))))) else (some (0, 0, 0, 0, 0, 2))))) else (none))) else (none))) else (none)) else (none)) else (none)) = some (r1, r2, r3, r4, r5, r6) := by rw [if_pos rfl] at H; exact H
     clear H
     have H := H1
     clear H1
     by_cases c12 : 2 < (l0.length : Int)
     ·rw [if_pos c12] at H
      have c12b0 : decide (2 < (l0.length : Int)) = true := decide_eq_true c12
      have c12b1 : decide (2 < l0.length) = true := decide_eq_true (by omega)
      clear c12
      by_cases c13 : 3 < (l0.length : Int)
      ·rw [if_pos c13] at H
       have c13b0 : decide (3 < (l0.length : Int)) = true := decide_eq_true c13
       have c13b1 : decide (3 < l0.length) = true := decide_eq_true (by omega)
       clear c13
       by_cases c14 : 12 ≤ (l0.length : Int)
       ·rw [if_pos c14] at H
        have c14b0 := eq_true c14
        have c14b1 : decide (12 ≤ (l0.length : Int)) = true := decide_eq_true c14
        clear c14
        obtain ⟨y407, hy407⟩ : ∃ y_ : List Int, y_ = ((l0.take 12).drop 4) := ⟨_, rfl⟩
        replace H : ((rf_value.f kj1 y407).bind fun t411 => (if 16 ≤ (l0.length : Int) then ((rf_value.f kj1 ((l0.take 16).drop 12)).bind fun t416 => (if 24 ≤ (l0.length : Int) then ((rf_value.f kj1 ((l0.take 24).drop 16)).bind fun t421 => ((rf_RightControl.f (wrap64 (rd l0 2)) (wrap64 (rd l0 3)) (wrap64 (t411)) ((t416) % 4294967296) (wrap64 (t421))).bind fun t423 => (if t423 = true then ((rf_Control.f kj1 (wrap64 (rd l0 2)) (wrap64 (rd l0 3)) (wrap64 (t411)) ((t416) % 4294967296) (wrap64 (t421))).bind fun t424 => ((rf_same.f t424 l0).bind fun t427 => (if t427 = true then (some (wrap64 (rd l0 2), wrap64 (rd l0 3), wrap64 (t411), (t416) % 4294967296, wrap64 (t421), 0)) else (some (0, 0, 0, 0, 0, 2))))) else (some (0, 0, 0, 0, 0, 2))))) else (none))) else (none))) = some (r1, r2, r3, r4, r5, r6) := by first | (rw [hy407]; with_reducible exact H) | (have H2_ := (Option.bind_some _ _).symm.trans H; rw [hy407]; with_reducible exact H2_) | (have H2_ := (Option.bind_some _ _).symm.trans H; with_reducible exact H2_) | with_reducible exact H | (rw [hy407]; exact H) | exact H
        have Ny407 := Azz.mk hy407
        clear hy407
        replace H := Option.bind_eq_some_iff.mp H
        obtain ⟨t411, A150, H⟩ := H
        replace H : (if 16 ≤ (l0.length : Int) then ((rf_value.f kj1 ((l0.take 16).drop 12)).bind fun t416 => (if 24 ≤ (l0.length : Int) then ((rf_value.f kj1 ((l0.take 24).drop 16)).bind fun t421 => ((rf_RightControl.f (wrap64 (rd l0 2)) (wrap64 (rd l0 3)) (wrap64 (t411)) ((t416) % 4294967296) (wrap64 (t421))).bind fun t423 => (if t423 = true then ((rf_Control.f kj1 (wrap64 (rd l0 2)) (wrap64 (rd l0 3)) (wrap64 (t411)) ((t416) % 4294967296) (wrap64 (t421))).bind fun t424 => ((rf_same.f t424 l0).bind fun t427 => (if t427 = true then (some (wrap64 (rd l0 2), wrap64 (rd l0 3), wrap64 (t411), (t416) % 4294967296, wrap64 (t421), 0)) else (some (0, 0, 0, 0, 0, 2))))) else (some (0, 0, 0, 0, 0, 2))))) else (none))) else (none)) = some (r1, r2, r3, r4, r5, r6) := H
        have A15 := Azz.mk A150
        clear A150
        by_cases c16 : 16 ≤ (l0.length : Int)
        ·rw [if_pos c16] at H
         have c16b0 := eq_true c16
         have c16b1 : decide (16 ≤ (l0.length : Int)) = true := decide_eq_true c16
         clear c16
         obtain ⟨y412, hy412⟩ : ∃ y_ : List Int, y_ = ((l0.take 16).drop 12) := ⟨_, rfl⟩
         replace H : ((rf_value.f kj1 y412).bind fun t416 => (if 24 ≤ (l0.length : Int) then ((rf_value.f kj1 ((l0.take 24).drop 16)).bind fun t421 => ((rf_RightControl.f (wrap64 (rd l0 2)) (wrap64 (rd l0 3)) (wrap64 (t411)) ((t416) % 4294967296) (wrap64 (t421))).bind fun t423 => (if t423 = true then ((rf_Control.f kj1 (wrap64 (rd l0 2)) (wrap64 (rd l0 3)) (wrap64 (t411)) ((t416) % 4294967296) (wrap64 (t421))).bind fun t424 => ((rf_same.f t424 l0).bind fun t427 => (if t427 = true then (some (wrap64 (rd l0 2), wrap64 (rd l0 3), wrap64 (t411), (t416) % 4294967296, wrap64 (t421), 0)) else (some (0, 0, 0, 0, 0, 2))))) else (some (0, 0, 0, 0, 0, 2))))) else (none))) = some (r1, r2, r3, r4, r5, r6) := by first | (rw [hy412]; with_reducible exact H) | (have H2_ := (Option.bind_some _ _).symm.trans H; rw [hy412]; with_reducible exact H2_) | (have H2_ := (Option.bind_some _ _).symm.trans H; with_reducible exact H2_) | with_reducible exact H | (rw [hy412]; exact H) | exact H
         have Ny412 := Azz.mk hy412
         clear hy412
         replace H := Option.bind_eq_some_iff.mp H
         obtain ⟨t416, A170, H⟩ := H
         replace H : (if 24 ≤ (l0.length : Int) then ((rf_value.f kj1 ((l0.take 24).drop 16)).bind fun t421 => ((rf_RightControl.f (wrap64 (rd l0 2)) (wrap64 (rd l0 3)) (wrap64 (t411)) ((t416) % 4294967296) (wrap64 (t421))).bind fun t423 => (if t423 = true then ((rf_Control.f kj1 (wrap64 (rd l0 2)) (wrap64 (rd l0 3)) (wrap64 (t411)) ((t416) % 4294967296) (wrap64 (t421))).bind fun t424 => ((rf_same.f t424 l0).bind fun t427 => (if t427 = true then (some (wrap64 (rd l0 2), wrap64 (rd l0 3), wrap64 (t411), (t416) % 4294967296, wrap64 (t421), 0)) else (some (0, 0, 0, 0, 0, 2))))) else (some (0, 0, 0, 0, 0, 2))))) else (none)) = some (r1, r2, r3, r4, r5, r6) := H
         have A17 := Azz.mk A170
         clear A170
         by_cases c18 : 24 ≤ (l0.length : Int)
         ·rw [if_pos c18] at H
          have c18b0 := eq_true c18
          have c18b1 : decide (24 ≤ (l0.length : Int)) = true := decide_eq_true c18
          clear c18
          obtain ⟨y417, hy417⟩ : ∃ y_ : List Int, y_ = ((l0.take 24).drop 16) := ⟨_, rfl⟩
          replace H : ((rf_value.f kj1 y417).bind fun t421 => ((rf_RightControl.f (wrap64 (rd l0 2)) (wrap64 (rd l0 3)) (wrap64 (t411)) ((t416) % 4294967296) (wrap64 (t421))).bind fun t423 => (if t423 = true then ((rf_Control.f kj1 (wrap64 (rd l0 2)) (wrap64 (rd l0 3)) (wrap64 (t411)) ((t416) % 4294967296) (wrap64 (t421))).bind fun t424 => ((rf_same.f t424 l0).bind fun t427 => (if t427 = true then (some (wrap64 (rd l0 2), wrap64 (rd l0 3), wrap64 (t411), (t416) % 4294967296, wrap64 (t421), 0)) else (some (0, 0, 0, 0, 0, 2))))) else (some (0, 0, 0, 0, 0, 2))))) = some (r1, r2, r3, r4, r5, r6) := by first | (rw [hy417]; with_reducible exact H) | (have H2_ := (Option.bind_some _ _).symm.trans H; rw [hy417]; with_reducible exact H2_) | (have H2_ := (Option.bind_some _ _).symm.trans H; with_reducible exact H2_) | with_reducible exact H | (rw [hy417]; exact H) | exact H
          have Ny417 := Azz.mk hy417
          clear hy417
          replace H := Option.bind_eq_some_iff.mp H
          obtain ⟨t421, A190, H⟩ := H
          replace H : ((rf_RightControl.f (wrap64 (rd l0 2)) (wrap64 (rd l0 3)) (wrap64 (t411)) ((t416) % 4294967296) (wrap64 (t421))).bind fun t423 => (if t423 = true then ((rf_Control.f kj1 (wrap64 (rd l0 2)) (wrap64 (rd l0 3)) (wrap64 (t411)) ((t416) % 4294967296) (wrap64 (t421))).bind fun t424 => ((rf_same.f t424 l0).bind fun t427 => (if t427 = true then (some (wrap64 (rd l0 2), wrap64 (rd l0 3), wrap64 (t411), (t416) % 4294967296, wrap64 (t421), 0)) else (some (0, 0, 0, 0, 0, 2))))) else (some (0, 0, 0, 0, 0, 2)))) = some (r1, r2, r3, r4, r5, r6) := H
          have A19 := Azz.mk A190
          clear A190
          replace H := Option.bind_eq_some_iff.mp H
          obtain ⟨t423, A200, H⟩ := H
          replace H : (if t423 = true then ((rf_Control.f kj1 (wrap64 (rd l0 2)) (wrap64 (rd l0 3)) (wrap64 (t411)) ((t416) % 4294967296) (wrap64 (t421))).bind fun t424 => ((rf_same.f t424 l0).bind fun t427 => (if t427 = true then (some (wrap64 (rd l0 2), wrap64 (rd l0 3), wrap64 (t411), (t416) % 4294967296, wrap64 (t421), 0)) else (some (0, 0, 0, 0, 0, 2))))) else (some (0, 0, 0, 0, 0, 2))) = some (r1, r2, r3, r4, r5, r6) := H
          have A20 := Azz.mk A200
          clear A200
          by_cases c21 : t423 = true
          ·subst c21
           have H1 : ((rf_Control.f kj1 (wrap64 (rd l0 2)) (wrap64 (rd l0 3)) (wrap64 (t411)) ((t416) % 4294967296) (wrap64 (t421))).bind fun t424 => ((rf_same.f t424 l0).bind fun t427 => (if t427 = true then (some (wrap64 (rd l0 2), wrap64 (rd l0 3), wrap64 (t411), (t416) % 4294967296, wrap64 (t421), 0)) else (some (0, 0, 0, 0, 0, 2))))) = some (r1, r2, r3, r4, r5, r6) := by rw [if_pos rfl] at H; exact H
           clear H
           have H := H1
           clear H1
           replace H := Option.bind_eq_some_iff.mp H
           obtain ⟨t424, A220, H⟩ := H
           replace H : ((rf_same.f t424 l0).bind fun t427 => (if t427 = true then (some (wrap64 (rd l0 2), wrap64 (rd l0 3), wrap64 (t411), (t416) % 4294967296, wrap64 (t421), 0)) else (some (0, 0, 0, 0, 0, 2)))) = some (r1, r2, r3, r4, r5, r6) := H
           have A22 := Azz.mk A220
           clear A220
           replace H := Option.bind_eq_some_iff.mp H
           obtain ⟨t427, A230, H⟩ := H
           replace H : (if t427 = true then (some (wrap64 (rd l0 2), wrap64 (rd l0 3), wrap64 (t411), (t416) % 4294967296, wrap64 (t421), 0)) else (some (0, 0, 0, 0, 0, 2))) = some (r1, r2, r3, r4, r5, r6) := H
           have A23 := Azz.mk A230
           clear A230
           by_cases c24 : t427 = true
           ·subst c24
            have H1 : (some (wrap64 (rd l0 2), wrap64 (rd l0 3), wrap64 (t411), (t416) % 4294967296, wrap64 (t421), 0)) = some (r1, r2, r3, r4, r5, r6) := by rw [if_pos rfl] at H; exact H
            clear H
            have H := H1
            clear H1
            simp only [Option.some.injEq, Prod.mk.injEq] at H
            obtain ⟨rfl, rfl, rfl, rfl, rfl, rfl⟩ := H
            try go_wp2_with (first | ((with_reducible refine gate_callee (f := 35) rfl ?_); refine goesL_ (some 22) rfl rfl Try.func35 (by kernel_rfl) rfl #[.slice A0 l0.length c0] rfl (by (try simp only [List.map_toArray, List.map_cons, List.map_nil]); first | done | rfl | (simp only [List.length_drop, List.length_take]; rfl)) ?_; (with_reducible refine (rf_sum.calls kj1 _ _ l0 true _ ?side1 ?side2 A10.out).mono ?_); (case side1 => repeat (first | exact (Kd.C_below HR0.out HB.out) | (with_reducible refine Kd.C_alloc ?_ _) | (with_reducible refine Kd.C_drewN ?_ _) | (with_reducible refine Kd.C_drew ?_))); (case side2 => exact HC0.out); rintro e w' ⟨rfl, ⟨nd, rfl⟩⟩; refine ⟨_, rfl, ?_⟩; (try (rw [drewN_self wc]; generalize hq_ : World.drewN wc _ = wc; have n0_ : Azz (wc.heap[gb401]? = some (.cells #[.int .i64 0, .int .i64 0, .int .i64 0, .int .u32 0, .int .i64 0] 24 (0, 0))) := ⟨by rw [← hq_]; exact (by (with_reducible repeat (first | refine kdN ?_ _ | refine kd1 ?_ | refine kal ?_ _)); exact BK401.out)⟩; have n1_ : Azz (Below w.heap.size w wc) := ⟨by rw [← hq_]; exact (by repeat (first | (with_reducible first | exact HB.out | apply bal | apply pbN | apply bd1 | refine bst ?_ GE401.out) | exact HB.out))⟩; clear BK401 HB hq_; have BK401 := n0_; have HB := n1_; clear n0_ n1_))))
            have n0_ := Azz.mk (kd1 BK401.out)
            have n1_ := Azz.mk (bd1 HB.out)
            clear BK401
            clear HB
            have BK401 := n0_
            have HB := n1_
            clear n0_ n1_
            have p405 : 0 ≤ (2 : Int) := (by omega)
            have q405 : 2 < (l0.length : Int) := of_decide_eq_true (by first | (with_reducible assumption) | assumption)
            obtain ⟨ad405, e405, hx405_0⟩ := Kd.at_int HR0.out 2 p405 q405
            have hw405_0 := hx405_0
            (try rw [show ((2 : Int)).toNat = 2 from rfl] at hw405_0)
            (try rw [show 2 * 1 = 2 from rfl] at hw405_0)
            (try simp only [Nat.reduceMul, Nat.reduceEqDiff, Go.Addr.add, ↓reduceIte] at hw405_0)
            cases e405
            (try simp only [show (2 : Int).toNat = 2 from rfl, Nat.reduceMul, Nat.reduceEqDiff, Go.Addr.add, ↓reduceIte] at hx405_0)
            have qi405 : (2 < l0.length) = True := eq_true (by omega)
            (try rw [show ((2 : Int)).toNat = 2 from rfl] at hx405_0)
            replace hx405_0 := (HB.out.cell (World.block_lt_of_cell? w _ hx405_0)).trans hx405_0
            replace p405 := eq_true p405
            replace q405 := eq_true q405
            have p406 : 0 ≤ (3 : Int) := (by omega)
            have q406 : 3 < (l0.length : Int) := of_decide_eq_true (by first | (with_reducible assumption) | assumption)
            obtain ⟨ad406, e406, hx406_0⟩ := Kd.at_int HR0.out 3 p406 q406
            have hw406_0 := hx406_0
            (try rw [show ((3 : Int)).toNat = 3 from rfl] at hw406_0)
            (try rw [show 3 * 1 = 3 from rfl] at hw406_0)
            (try simp only [Nat.reduceMul, Nat.reduceEqDiff, Go.Addr.add, ↓reduceIte] at hw406_0)
            obtain rfl : ad405 = ad406 := (by injection e406)
            (try simp only [show (3 : Int).toNat = 3 from rfl, Nat.reduceMul, Nat.reduceEqDiff, Go.Addr.add, ↓reduceIte] at hx406_0)
            have qi406 : (3 < l0.length) = True := eq_true (by omega)
            (try rw [show ((3 : Int)).toNat = 3 from rfl] at hx406_0)
            replace hx406_0 := (HB.out.cell (World.block_lt_of_cell? w _ hx406_0)).trans hx406_0
            replace p406 := eq_true p406
            replace q406 := eq_true q406
            have q26 : (12 : Int) ≤ ((l0.length : Int) : Int) := of_decide_eq_true (by first | (with_reducible assumption) | assumption)
            obtain ⟨i026, hi026, _, hsz26, _⟩ := info_parts info5
            have hroom26 : l0.length ≤ c0 := HC0.out
            have hC26 : Kd.C (Kd.int .u8) _ (some ad405) l0.length l0 := HR0.out
            have ql26 : (4 : Int) ≤ (12 : Int) := (by omega)
            have hcut26 := cut_mid (P := Try.prog) 26 5 .i64 .i64 Try.underlying26 hi026 1 hsz26 (some ad405) l0.length c0 4 12 (by omega) ql26 q26 hroom26
            have hr26 := Kd.C_mid (lo := (4 : Int).toNat) (hi := (12 : Int).toNat) (c := c0) hC26 (by omega) (by omega) hroom26
            obtain ⟨A26, hA26⟩ : ∃ A1, A1 = (if c0 = (4 : Int).toNat then (some ad405) else ((some ad405) : Option Addr).map (·.add ((4 : Int).toNat * 1))) := ⟨_, rfl⟩
            obtain ⟨c26, hc26⟩ : ∃ c1, c1 = c0 - (4 : Int).toNat := ⟨_, rfl⟩
            have hy26 : y407.length = (12 : Int).toNat - (4 : Int).toNat := (by rw [Ny407.out, List.length_drop, List.length_take] <;> omega)
            rw [show ((l0).take (12 : Int).toNat).drop (4 : Int).toNat = y407 from Ny407.out.symm] at hr26
            replace hr26 : Kd.C (Kd.int .u8) _ A26 y407.length y407 := (by rw [hA26]; exact hr26)
            rw [← hy26, ← hA26, ← hc26] at hcut26
            have HR410 := Azz.mk hr26
            have HC410 := Azz.mk (show y407.length ≤ c26 from by rw [hy26, hc26]; exact Nat.sub_le_sub_right (Nat.le_trans (by omega) hroom26) _)
            clear hr26 hC26 hroom26 hi026 hsz26 hc26
            have KY26 := Azz.mk hy26
            have KA26 := Azz.mk hA26
            clear hy26 hA26
            replace q26 := eq_true q26
            have q27 : (16 : Int) ≤ ((l0.length : Int) : Int) := of_decide_eq_true (by first | (with_reducible assumption) | assumption)
            obtain ⟨i027, hi027, _, hsz27, _⟩ := info_parts info5
            have hroom27 : l0.length ≤ c0 := HC0.out
            have hC27 : Kd.C (Kd.int .u8) _ (some ad405) l0.length l0 := HR0.out
            have ql27 : (12 : Int) ≤ (16 : Int) := (by omega)
            have hcut27 := cut_mid (P := Try.prog) 26 5 .i64 .i64 Try.underlying26 hi027 1 hsz27 (some ad405) l0.length c0 12 16 (by omega) ql27 q27 hroom27
            have hr27 := Kd.C_mid (lo := (12 : Int).toNat) (hi := (16 : Int).toNat) (c := c0) hC27 (by omega) (by omega) hroom27
            obtain ⟨A27, hA27⟩ : ∃ A1, A1 = (if c0 = (12 : Int).toNat then (some ad405) else ((some ad405) : Option Addr).map (·.add ((12 : Int).toNat * 1))) := ⟨_, rfl⟩
            obtain ⟨c27, hc27⟩ : ∃ c1, c1 = c0 - (12 : Int).toNat := ⟨_, rfl⟩
            have hy27 : y412.length = (16 : Int).toNat - (12 : Int).toNat := (by rw [Ny412.out, List.length_drop, List.length_take] <;> omega)
            rw [show ((l0).take (16 : Int).toNat).drop (12 : Int).toNat = y412 from Ny412.out.symm] at hr27
            replace hr27 : Kd.C (Kd.int .u8) _ A27 y412.length y412 := (by rw [hA27]; exact hr27)
            rw [← hy27, ← hA27, ← hc27] at hcut27
            have HR415 := Azz.mk hr27
            have HC415 := Azz.mk (show y412.length ≤ c27 from by rw [hy27, hc27]; exact Nat.sub_le_sub_right (Nat.le_trans (by omega) hroom27) _)
            clear hr27 hC27 hroom27 hi027 hsz27 hc27
            have KY27 := Azz.mk hy27
            have KA27 := Azz.mk hA27
            clear hy27 hA27
            replace q27 := eq_true q27
            have q28 : (24 : Int) ≤ ((l0.length : Int) : Int) := of_decide_eq_true (by first | (with_reducible assumption) | assumption)
            obtain ⟨i028, hi028, _, hsz28, _⟩ := info_parts info5
            have hroom28 : l0.length ≤ c0 := HC0.out
            have hC28 : Kd.C (Kd.int .u8) _ (some ad405) l0.length l0 := HR0.out
            have ql28 : (16 : Int) ≤ (24 : Int) := (by omega)
            have hcut28 := cut_mid (P := Try.prog) 26 5 .i64 .i64 Try.underlying26 hi028 1 hsz28 (some ad405) l0.length c0 16 24 (by omega) ql28 q28 hroom28
            have hr28 := Kd.C_mid (lo := (16 : Int).toNat) (hi := (24 : Int).toNat) (c := c0) hC28 (by omega) (by omega) hroom28
            obtain ⟨A28, hA28⟩ : ∃ A1, A1 = (if c0 = (16 : Int).toNat then (some ad405) else ((some ad405) : Option Addr).map (·.add ((16 : Int).toNat * 1))) := ⟨_, rfl⟩
            obtain ⟨c28, hc28⟩ : ∃ c1, c1 = c0 - (16 : Int).toNat := ⟨_, rfl⟩
            have hy28 : y417.length = (24 : Int).toNat - (16 : Int).toNat := (by rw [Ny417.out, List.length_drop, List.length_take] <;> omega)
            rw [show ((l0).take (24 : Int).toNat).drop (16 : Int).toNat = y417 from Ny417.out.symm] at hr28
            replace hr28 : Kd.C (Kd.int .u8) _ A28 y417.length y417 := (by rw [hA28]; exact hr28)
            rw [← hy28, ← hA28, ← hc28] at hcut28
            have HR420 := Azz.mk hr28
            have HC420 := Azz.mk (show y417.length ≤ c28 from by rw [hy28, hc28]; exact Nat.sub_le_sub_right (Nat.le_trans (by omega) hroom28) _)
            clear hr28 hC28 hroom28 hi028 hsz28 hc28
            have KY28 := Azz.mk hy28
            have KA28 := Azz.mk hA28
            clear hy28 hA28
            replace q28 := eq_true q28
            refine start_ (n := 23) (S := fun w' => w'.cell? ⟨ad405.block, ad405.off + 2, none⟩ = some (.int .u8 (rd l0 2)) ∧ w'.cell? ⟨ad405.block, ad405.off + 3, none⟩ = some (.int .u8 (rd l0 3))) (ds := []) #[false, false, false, false, false, false, false, false, false, false, false, false, false, false, false, false, false, false, false, false, false, false, false] (by kernel_rfl) rfl rfl ⟨((HB.out.cell (World.block_lt_of_cell? w _ hw405_0)).trans hw405_0), ((HB.out.cell (World.block_lt_of_cell? w _ hw406_0)).trans hw406_0)⟩ (fun hHeld => ?_); refine with_tabW rf_ReadControl.tab5 rf_ReadControl.bits5 (fun HT_ HW_ => ?_)
            generalize wc.drew = w25 at BK401 HB HR410 HR415 HR420 hx405_0 hx406_0 hHeld ⊢
            refine pure_ (i := 0) (N := some 25) (v := ?_) (a' := ?_) #[true, false, false, false, false, false, false, false, false, false, false, false, false, false, false, false, false, false, false, false, false, false, false] rfl rfl (any_of HT_.out (by kernel_rfl)) (fun _ _ _ h => h) (Or.inl ⟨by rfl, ?_⟩) ?_ ?_
            rotate_left
            ·intro w'
             go_simp
             with_reducible rfl
            rotate_left
            ·simp only [Act.put, List.setIfInBounds_toArray, List.set_cons_zero, List.set_cons_succ, i64_w, i32_w]
             rfl
            refine pure_ (i := 1) (N := some 26) (v := ?_) (a' := ?_) #[true, true, false, false, false, false, false, false, false, false, false, false, false, false, false, false, false, false, false, false, false, false, false] rfl rfl (any_of HT_.out (by kernel_rfl)) (fun _ _ _ h => h) (Or.inl ⟨by rfl, ?_⟩) ?_ ?_
            rotate_left
            ·intro w'
             go_simp
             with_reducible rfl
            rotate_left
            ·simp only [Act.put, List.setIfInBounds_toArray, List.set_cons_zero, List.set_cons_succ, i64_w, i32_w]
             rfl
            refine pure_ (i := 4) (N := some 29) (v := ?_) (a' := ?_) #[true, true, false, false, true, false, false, false, false, false, false, false, false, false, false, false, false, false, false, false, false, false, false] rfl rfl (any_of HT_.out (by kernel_rfl)) (fun _ _ _ h => h) (Or.inl ⟨by rfl, ?_⟩) ?_ ?_
            rotate_left
            ·intro w'
             go_simp
             with_reducible rfl
            rotate_left
            ·simp only [Act.put, List.setIfInBounds_toArray, List.set_cons_zero, List.set_cons_succ, i64_w, i32_w]
             rfl
            refine pure_ (i := 5) (N := some 30) (v := ?_) (a' := ?_) #[true, true, false, false, true, true, false, false, false, false, false, false, false, false, false, false, false, false, false, false, false, false, false] rfl rfl (any_of HT_.out (by kernel_rfl)) (fun _ _ _ h => h) (Or.inl ⟨by rfl, ?_⟩) ?_ ?_
            rotate_left
            ·intro w'
             go_simp
             with_reducible rfl
            rotate_left
            ·simp only [Act.put, List.setIfInBounds_toArray, List.set_cons_zero, List.set_cons_succ, i64_w, i32_w]
             rfl
            refine pure_ (i := 8) (N := some 33) (v := ?_) (a' := ?_) #[true, true, false, false, true, true, false, false, true, false, false, false, false, false, false, false, false, false, false, false, false, false, false] rfl rfl (any_of HT_.out (by kernel_rfl)) (fun _ _ _ h => h) (Or.inl ⟨by rfl, ?_⟩) ?_ ?_
            rotate_left
            ·intro w'
             go_simp
             with_reducible rfl
            rotate_left
            ·simp only [Act.put, List.setIfInBounds_toArray, List.set_cons_zero, List.set_cons_succ, i64_w, i32_w]
             rfl
            refine pure_ (i := 9) (N := some 34) (v := ?_) (a' := ?_) #[true, true, false, false, true, true, false, false, true, true, false, false, false, false, false, false, false, false, false, false, false, false, false] rfl rfl (any_of HT_.out (by kernel_rfl)) (fun _ _ _ h => h) (Or.inl ⟨by rfl, ?_⟩) ?_ ?_
            rotate_left
            ·intro w'
             go_simp
             with_reducible rfl
            rotate_left
            ·simp only [Act.put, List.setIfInBounds_toArray, List.set_cons_zero, List.set_cons_succ, i64_w, i32_w]
             rfl
            refine pure_ (i := 12) (N := some 37) (v := ?_) (a' := ?_) #[true, true, false, false, true, true, false, false, true, true, false, false, true, false, false, false, false, false, false, false, false, false, false] rfl rfl (any_of HT_.out (by kernel_rfl)) (fun _ _ _ h => h) (Or.inl ⟨by rfl, ?_⟩) ?_ ?_
            rotate_left
            ·intro w'
             go_simp
             with_reducible rfl
            rotate_left
            ·simp only [Act.put, List.setIfInBounds_toArray, List.set_cons_zero, List.set_cons_succ, i64_w, i32_w]
             rfl
            refine pure_ (i := 13) (N := some 38) (v := ?_) (a' := ?_) #[true, true, false, false, true, true, false, false, true, true, false, false, true, true, false, false, false, false, false, false, false, false, false] rfl rfl (any_of HT_.out (by kernel_rfl)) (fun _ _ _ h => h) (Or.inl ⟨by rfl, ?_⟩) ?_ ?_
            rotate_left
            ·intro w'
             go_simp
             with_reducible rfl
            rotate_left
            ·simp only [Act.put, List.setIfInBounds_toArray, List.set_cons_zero, List.set_cons_succ, i64_w, i32_w]
             rfl
            refine pure_ (i := 16) (N := some 41) (v := ?_) (a' := ?_) #[true, true, false, false, true, true, false, false, true, true, false, false, true, true, false, false, true, false, false, false, false, false, false] rfl rfl (any_of HT_.out (by kernel_rfl)) (fun _ _ _ h => h) (Or.inl ⟨by rfl, ?_⟩) ?_ ?_
            rotate_left
            ·intro w'
             go_simp
             with_reducible rfl
            rotate_left
            ·simp only [Act.put, List.setIfInBounds_toArray, List.set_cons_zero, List.set_cons_succ, i64_w, i32_w]
             rfl
            refine pure_ (i := 17) (N := some 42) (v := ?_) (a' := ?_) #[true, true, false, false, true, true, false, false, true, true, false, false, true, true, false, false, true, true, false, false, false, false, false] rfl rfl (any_of HT_.out (by kernel_rfl)) (fun _ _ _ h => h) (Or.inl ⟨by rfl, ?_⟩) ?_ ?_
            rotate_left
            ·intro w'
             go_simp
             with_reducible rfl
            rotate_left
            ·simp only [Act.put, List.setIfInBounds_toArray, List.set_cons_zero, List.set_cons_succ, i64_w, i32_w]
             rfl
            refine take_ (i := 2) (N := some 27) (v := ?_) (a' := ?_) #[true, true, true, false, true, true, false, false, true, true, false, false, true, true, false, false, true, true, false, false, false, false, false] rfl rfl (take_ofW HT_.out HW_.out (by kernel_rfl)) (fun _ _ _ h => h) (Or.inl ⟨by rfl, ?_⟩) hHeld ?_ ?_
            rotate_left
            ·rintro w' ⟨s0, s1⟩
             go_simp
             with_reducible rfl
            rotate_left
            ·simp only [Act.put, List.setIfInBounds_toArray, List.set_cons_zero, List.set_cons_succ, i64_w, i32_w]
             rfl
            refine pure_ (i := 3) (N := some 28) (v := ?_) (a' := ?_) #[true, true, true, true, true, true, false, false, true, true, false, false, true, true, false, false, true, true, false, false, false, false, false] rfl rfl (any_of HT_.out (by kernel_rfl)) (fun _ _ _ h => h) (Or.inl ⟨by rfl, ?_⟩) ?_ ?_
            rotate_left
            ·intro w'
             go_simp
             with_reducible rfl
            rotate_left
            ·simp only [Act.put, List.setIfInBounds_toArray, List.set_cons_zero, List.set_cons_succ, i64_w, i32_w]
             rfl
            refine take_ (i := 6) (N := some 31) (v := ?_) (a' := ?_) #[true, true, true, true, true, true, true, false, true, true, false, false, true, true, false, false, true, true, false, false, false, false, false] rfl rfl (take_ofW HT_.out HW_.out (by kernel_rfl)) (fun _ _ _ h => h) (Or.inl ⟨by rfl, ?_⟩) hHeld ?_ ?_
            rotate_left
            ·rintro w' ⟨s0, s1⟩
             go_simp
             with_reducible rfl
            rotate_left
            ·simp only [Act.put, List.setIfInBounds_toArray, List.set_cons_zero, List.set_cons_succ, i64_w, i32_w]
             rfl
            refine pure_ (i := 7) (N := some 32) (v := ?_) (a' := ?_) #[true, true, true, true, true, true, true, true, true, true, false, false, true, true, false, false, true, true, false, false, false, false, false] rfl rfl (any_of HT_.out (by kernel_rfl)) (fun _ _ _ h => h) (Or.inl ⟨by rfl, ?_⟩) ?_ ?_
            rotate_left
            ·intro w'
             go_simp
             with_reducible rfl
            rotate_left
            ·simp only [Act.put, List.setIfInBounds_toArray, List.set_cons_zero, List.set_cons_succ, i64_w, i32_w]
             rfl
            refine join_ (σ := Nat) 1 #[true, true, true, true, true, true, true, true, true, true, true, true, true, true, true, true, true, true, true, true, true, true, false] (fun s_ => [(35, .int .u64 t411), (39, .int .u64 t416), (43, .int .u64 t421), (4, .pointer (some ⟨s_, 0, none⟩)), (36, .int .i64 (wrap64 (t411))), (40, .int .u32 ((t416) % 4294967296)), (44, .int .i64 (wrap64 (t421))), (45, .agg #[.int .i64 (wrap64 (rd l0 2)), .int .i64 (wrap64 (rd l0 3)), .int .i64 (wrap64 (t411)), .int .u32 ((t416) % 4294967296), .int .i64 (wrap64 (t421))])]) (fun s_ w' => (w'.cell? ⟨ad405.block, ad405.off + 2, none⟩ = some (.int .u8 (rd l0 2)) ∧ w'.cell? ⟨ad405.block, ad405.off + 3, none⟩ = some (.int .u8 (rd l0 3))) ∧ (w'.heap[gb401]? = some (.cells #[.int .i64 0, .int .i64 0, .int .i64 0, .int .u32 0, .int .i64 0] 24 (0, 0))) ∧ (w'.heap[s_]? = some (.cells #[.int .i64 0, .int .i64 0, .int .i64 0, .int .u32 0, .int .i64 0] 24 (0, 0))) ∧ (w.heap.size ≤ s_) ∧ (w.heap.size ≤ s_) ∧ (gb401 ≠ s_) ∧ (s_ ≠ gb401) ∧ (Below w.heap.size w w')) ?_ ?_
            rotate_left
            ·intro hCont
             refine two_ (i := 10) (j := 21) (Ni := some 35) (Nj := some 4) #[true, true, true, true, true, true, true, true, true, true, true, false, true, true, false, false, true, true, false, false, false, false, false] #[true, true, true, true, true, true, true, true, true, true, false, false, true, true, false, false, true, true, false, false, false, true, false] rfl rfl rfl rfl (two_of HT_.out (by kernel_rfl)) (by decide) (by decide) (fun K hK => ?_) (fun K hK => ?_)
             ·skip
              refine goes_ Try.func36 (by kernel_rfl) rfl #[.slice A26 y407.length c26] (by rfl) rfl rfl (by (try simp only [List.map_toArray, List.map_cons, List.map_nil]); first | done | rfl | (simp only [List.length_drop, List.length_take]; rfl)) ?_
              with_reducible refine (rf_value.calls kj1 _ _ y407 t411 _ ?side1 ?side2 A15.out).mono ?_
              (case side1 => repeat (first | exact (Kd.C_below HR410.out HB.out) | (with_reducible refine Kd.C_alloc ?_ _) | (with_reducible refine Kd.C_drewN ?_ _) | (with_reducible refine Kd.C_drew ?_)))
              (case side2 => exact HC410.out)
              rintro e w' ⟨rfl, ⟨nd, rfl⟩⟩
              refine ⟨_, rfl, ?_⟩
              refine hK.out _ _ ⟨((HB.out.cell (World.block_lt_of_cell? w _ hw405_0)).trans hw405_0), ((HB.out.cell (World.block_lt_of_cell? w _ hw406_0)).trans hw406_0)⟩ (fun hHeld => ?_)
              clear hK K
              refine norm_ (a' := ?_) ?_ ?_
              rotate_left
              ·show Act.put _ (some 35) _ = _
               simp only [Act.put, List.setIfInBounds_toArray, List.set_cons_zero, List.set_cons_succ, i64_w, i32_w]
               rfl
              refine pure_ (i := 11) (N := some 36) (v := ?_) (a' := ?_) #[true, true, true, true, true, true, true, true, true, true, true, true, true, true, false, false, true, true, false, false, false, false, false] rfl rfl (any_of HT_.out (by kernel_rfl)) (fun _ _ _ h => h) (Or.inl ⟨by rfl, ?_⟩) ?_ ?_
              rotate_left
              ·intro w'
               go_simp
               with_reducible rfl
              rotate_left
              ·simp only [Act.put, List.setIfInBounds_toArray, List.set_cons_zero, List.set_cons_succ, i64_w, i32_w]
               rfl
              refine two_ (i := 14) (j := 21) (Ni := some 39) (Nj := some 4) #[true, true, true, true, true, true, true, true, true, true, true, true, true, true, true, false, true, true, false, false, false, false, false] #[true, true, true, true, true, true, true, true, true, true, true, true, true, true, false, false, true, true, false, false, false, true, false] rfl rfl rfl rfl (two_of HT_.out (by kernel_rfl)) (by decide) (by decide) (fun K hK => ?_) (fun K hK => ?_)
              ·skip
               refine goes_ Try.func36 (by kernel_rfl) rfl #[.slice A27 y412.length c27] (by rfl) rfl rfl (by (try simp only [List.map_toArray, List.map_cons, List.map_nil]); first | done | rfl | (simp only [List.length_drop, List.length_take]; rfl)) ?_
               with_reducible refine (rf_value.calls kj1 _ _ y412 t416 _ ?side1 ?side2 A17.out).mono ?_
               (case side1 => repeat (first | exact (Kd.C_below HR415.out (by repeat (first | (with_reducible first | exact HB.out | apply bal | apply pbN | apply bd1 | refine bst ?_ GE401.out) | exact HB.out))) | (with_reducible refine Kd.C_alloc ?_ _) | (with_reducible refine Kd.C_drewN ?_ _) | (with_reducible refine Kd.C_drew ?_)))
               (case side2 => exact HC415.out)
               rintro e w' ⟨rfl, ⟨nd, rfl⟩⟩
               refine ⟨_, rfl, ?_⟩
               refine hK.out _ _ ⟨((HB.out.cell (World.block_lt_of_cell? w _ hw405_0)).trans hw405_0), ((HB.out.cell (World.block_lt_of_cell? w _ hw406_0)).trans hw406_0)⟩ (fun hHeld => ?_)
               clear hK K
               refine norm_ (a' := ?_) ?_ ?_
               rotate_left
               ·show Act.put _ (some 39) _ = _
                simp only [Act.put, List.setIfInBounds_toArray, List.set_cons_zero, List.set_cons_succ, i64_w, i32_w]
                rfl
               refine pure_ (i := 15) (N := some 40) (v := ?_) (a' := ?_) #[true, true, true, true, true, true, true, true, true, true, true, true, true, true, true, true, true, true, false, false, false, false, false] rfl rfl (any_of HT_.out (by kernel_rfl)) (fun _ _ _ h => h) (Or.inl ⟨by rfl, ?_⟩) ?_ ?_
               rotate_left
               ·intro w'
                go_simp
                with_reducible rfl
               rotate_left
               ·simp only [Act.put, List.setIfInBounds_toArray, List.set_cons_zero, List.set_cons_succ, i64_w, i32_w]
                rfl
               refine two_ (i := 18) (j := 21) (Ni := some 43) (Nj := some 4) #[true, true, true, true, true, true, true, true, true, true, true, true, true, true, true, true, true, true, true, false, false, false, false] #[true, true, true, true, true, true, true, true, true, true, true, true, true, true, true, true, true, true, false, false, false, true, false] rfl rfl rfl rfl (two_of HT_.out (by kernel_rfl)) (by decide) (by decide) (fun K hK => ?_) (fun K hK => ?_)
               ·skip
                refine goes_ Try.func36 (by kernel_rfl) rfl #[.slice A28 y417.length c28] (by rfl) rfl rfl (by (try simp only [List.map_toArray, List.map_cons, List.map_nil]); first | done | rfl | (simp only [List.length_drop, List.length_take]; rfl)) ?_
                with_reducible refine (rf_value.calls kj1 _ _ y417 t421 _ ?side1 ?side2 A19.out).mono ?_
                (case side1 => repeat (first | exact (Kd.C_below HR420.out (by repeat (first | (with_reducible first | exact HB.out | apply bal | apply pbN | apply bd1 | refine bst ?_ GE401.out) | exact HB.out))) | (with_reducible refine Kd.C_alloc ?_ _) | (with_reducible refine Kd.C_drewN ?_ _) | (with_reducible refine Kd.C_drew ?_)))
                (case side2 => exact HC420.out)
                rintro e w' ⟨rfl, ⟨nd, rfl⟩⟩
                refine ⟨_, rfl, ?_⟩
                refine hK.out _ _ ⟨((HB.out.cell (World.block_lt_of_cell? w _ hw405_0)).trans hw405_0), ((HB.out.cell (World.block_lt_of_cell? w _ hw406_0)).trans hw406_0)⟩ (fun hHeld => ?_)
                clear hK K
                refine norm_ (a' := ?_) ?_ ?_
                rotate_left
                ·show Act.put _ (some 43) _ = _
                 simp only [Act.put, List.setIfInBounds_toArray, List.set_cons_zero, List.set_cons_succ, i64_w, i32_w]
                 rfl
                refine pure_ (i := 19) (N := some 44) (v := ?_) (a' := ?_) #[true, true, true, true, true, true, true, true, true, true, true, true, true, true, true, true, true, true, true, true, false, false, false] rfl rfl (any_of HT_.out (by kernel_rfl)) (fun _ _ _ h => h) (Or.inl ⟨by rfl, ?_⟩) ?_ ?_
                rotate_left
                ·intro w'
                 go_simp
                 with_reducible rfl
                rotate_left
                ·simp only [Act.put, List.setIfInBounds_toArray, List.set_cons_zero, List.set_cons_succ, i64_w, i32_w]
                 rfl
                refine pure_ (i := 20) (N := some 45) (v := ?_) (a' := ?_) #[true, true, true, true, true, true, true, true, true, true, true, true, true, true, true, true, true, true, true, true, true, false, false] rfl rfl (any_of HT_.out (by kernel_rfl)) (fun _ _ _ h => h) (Or.inl ⟨by rfl, ?_⟩) ?_ ?_
                rotate_left
                ·intro w'
                 go_simp
                 with_reducible rfl
                rotate_left
                ·simp only [Act.put, List.setIfInBounds_toArray, List.set_cons_zero, List.set_cons_succ, i64_w, i32_w]
                 rfl
                refine one_ (i := 21) (N := some 4) #[true, true, true, true, true, true, true, true, true, true, true, true, true, true, true, true, true, true, true, true, true, true, false] rfl rfl (one_of HT_.out (by kernel_rfl)) (by decide) (fun K hK => ?_)
                refine box_step ?hg (N := 4) ?hd (cs := #[.int .i64 0, .int .i64 0, .int .i64 0, .int .u32 0, .int .i64 0]) (t := 24) ?hr ?_; (case hd => rfl); (case hg => rfl); (case hr => first | (go_simp; done) | (go_simp; rfl))
                intro gb422 hg w29 hbox hb
                have n0_ := Azz.mk (blk_below (g := gb401) (o := .cells #[.int .i64 0, .int .i64 0, .int .i64 0, .int .u32 0, .int .i64 0] 24 (0, 0)) (by (with_reducible repeat (first | refine kdN ?_ _ | refine kd1 ?_ | refine kal ?_ _)); exact BK401.out) hb)
                have n1_ := Azz.mk (below_step (by repeat (first | (with_reducible first | exact HB.out | apply bal | apply pbN | apply bd1 | refine bst ?_ GE401.out) | exact HB.out)) hb)
                have n2_ := Azz.mk (hbox)
                have n3_ := Azz.mk ((by rw [hg]; exact (below_size (by repeat (first | (with_reducible first | exact HB.out | apply bal | apply pbN | apply bd1 | refine bst ?_ GE401.out) | exact HB.out))) : w.heap.size ≤ gb422))
                have n4_ := Azz.mk ((by rw [hg]; exact (below_size (by repeat (first | (with_reducible first | exact HB.out | apply bal | apply pbN | apply bd1 | refine bst ?_ GE401.out) | exact HB.out))) : w.heap.size ≤ gb422))
                have n5_ := Azz.mk ((by rw [hg]; exact Nat.ne_of_lt (blk_lt (g := gb401) (o := .cells #[.int .i64 0, .int .i64 0, .int .i64 0, .int .u32 0, .int .i64 0] 24 (0, 0)) (by (with_reducible repeat (first | refine kdN ?_ _ | refine kd1 ?_ | refine kal ?_ _)); exact BK401.out)) : gb401 ≠ gb422))
                have n6_ := Azz.mk ((by rw [hg]; exact Nat.ne_of_gt (blk_lt (g := gb401) (o := .cells #[.int .i64 0, .int .i64 0, .int .i64 0, .int .u32 0, .int .i64 0] 24 (0, 0)) (by (with_reducible repeat (first | refine kdN ?_ _ | refine kd1 ?_ | refine kal ?_ _)); exact BK401.out)) : gb422 ≠ gb401))
                clear BK401
                clear HB
                have BK401 := n0_
                have HB := n1_
                have BK422 := n2_
                have GW422 := n3_
                have GE422 := n4_
                have NB401_422 := n5_
                have NB422_401 := n6_
                clear n0_ n1_ n2_ n3_ n4_ n5_ n6_
                clear hb hbox hg
                refine hK.out _ _ ⟨((HB.out.cell (World.block_lt_of_cell? w _ hw405_0)).trans hw405_0), ((HB.out.cell (World.block_lt_of_cell? w _ hw406_0)).trans hw406_0)⟩ (fun hHeld => ?_)
                clear hK K
                refine norm_ (a' := ?_) ?_ ?_
                rotate_left
                ·show Act.put _ (some 4) _ = _
                 simp only [Act.put, List.setIfInBounds_toArray, List.set_cons_zero, List.set_cons_succ, i64_w, i32_w]
                 rfl
                exact norm_ (by first | (simp only [putAll, Act.put, List.setIfInBounds_toArray, List.set_cons_zero, List.set_cons_succ]; done) | (simp only [putAll, Act.put, List.setIfInBounds_toArray, List.set_cons_zero, List.set_cons_succ, IntKind.wrap_u32, IntKind.wrap_u8]; done)) (hCont (gb422) _ ⟨hHeld, (by (with_reducible repeat (first | refine kdN ?_ _ | refine kd1 ?_ | refine kal ?_ _)); exact BK401.out), (by (with_reducible repeat (first | refine kdN ?_ _ | refine kd1 ?_ | refine kal ?_ _)); exact BK422.out), GW422.out, GE422.out, NB401_422.out, NB422_401.out, (by repeat (first | (with_reducible first | exact HB.out | apply bal | apply pbN | apply bd1 | refine bst ?_ GE401.out | refine bst ?_ GE422.out) | exact HB.out))⟩)
               ·skip
                refine box_step ?hg (N := 4) ?hd (cs := #[.int .i64 0, .int .i64 0, .int .i64 0, .int .u32 0, .int .i64 0]) (t := 24) ?hr ?_; (case hd => rfl); (case hg => rfl); (case hr => first | (go_simp; done) | (go_simp; rfl))
                intro gb422 hg w29 hbox hb
                have n0_ := Azz.mk (blk_below (g := gb401) (o := .cells #[.int .i64 0, .int .i64 0, .int .i64 0, .int .u32 0, .int .i64 0] 24 (0, 0)) (by (with_reducible repeat (first | refine kdN ?_ _ | refine kd1 ?_ | refine kal ?_ _)); exact BK401.out) hb)
                have n1_ := Azz.mk (below_step (by repeat (first | (with_reducible first | exact HB.out | apply bal | apply pbN | apply bd1 | refine bst ?_ GE401.out) | exact HB.out)) hb)
                have n2_ := Azz.mk (hbox)
                have n3_ := Azz.mk ((by rw [hg]; exact (below_size (by repeat (first | (with_reducible first | exact HB.out | apply bal | apply pbN | apply bd1 | refine bst ?_ GE401.out) | exact HB.out))) : w.heap.size ≤ gb422))
                have n4_ := Azz.mk ((by rw [hg]; exact (below_size (by repeat (first | (with_reducible first | exact HB.out | apply bal | apply pbN | apply bd1 | refine bst ?_ GE401.out) | exact HB.out))) : w.heap.size ≤ gb422))
                have n5_ := Azz.mk ((by rw [hg]; exact Nat.ne_of_lt (blk_lt (g := gb401) (o := .cells #[.int .i64 0, .int .i64 0, .int .i64 0, .int .u32 0, .int .i64 0] 24 (0, 0)) (by (with_reducible repeat (first | refine kdN ?_ _ | refine kd1 ?_ | refine kal ?_ _)); exact BK401.out)) : gb401 ≠ gb422))
                have n6_ := Azz.mk ((by rw [hg]; exact Nat.ne_of_gt (blk_lt (g := gb401) (o := .cells #[.int .i64 0, .int .i64 0, .int .i64 0, .int .u32 0, .int .i64 0] 24 (0, 0)) (by (with_reducible repeat (first | refine kdN ?_ _ | refine kd1 ?_ | refine kal ?_ _)); exact BK401.out)) : gb422 ≠ gb401))
                clear BK401
                clear HB
                have BK401 := n0_
                have HB := n1_
                have BK422 := n2_
                have GW422 := n3_
                have GE422 := n4_
                have NB401_422 := n5_
                have NB422_401 := n6_
                clear n0_ n1_ n2_ n3_ n4_ n5_ n6_
                clear hb hbox hg
                refine hK.out _ _ ⟨((HB.out.cell (World.block_lt_of_cell? w _ hw405_0)).trans hw405_0), ((HB.out.cell (World.block_lt_of_cell? w _ hw406_0)).trans hw406_0)⟩ (fun hHeld => ?_)
                clear hK K
                refine norm_ (a' := ?_) ?_ ?_
                rotate_left
                ·show Act.put _ (some 4) _ = _
                 simp only [Act.put, List.setIfInBounds_toArray, List.set_cons_zero, List.set_cons_succ, i64_w, i32_w]
                 rfl
                refine one_ (i := 18) (N := some 43) #[true, true, true, true, true, true, true, true, true, true, true, true, true, true, true, true, true, true, true, false, false, true, false] rfl rfl (one_of HT_.out (by kernel_rfl)) (by decide) (fun K hK => ?_)
                refine goes_ Try.func36 (by kernel_rfl) rfl #[.slice A28 y417.length c28] (by rfl) rfl rfl (by (try simp only [List.map_toArray, List.map_cons, List.map_nil]); first | done | rfl | (simp only [List.length_drop, List.length_take]; rfl)) ?_
                with_reducible refine (rf_value.calls kj1 _ _ y417 t421 _ ?side1 ?side2 A19.out).mono ?_
                (case side1 => repeat (first | exact (Kd.C_below HR420.out HB.out) | (with_reducible refine Kd.C_alloc ?_ _) | (with_reducible refine Kd.C_drewN ?_ _) | (with_reducible refine Kd.C_drew ?_)))
                (case side2 => exact HC420.out)
                rintro e w' ⟨rfl, ⟨nd, rfl⟩⟩
                refine ⟨_, rfl, ?_⟩
                refine hK.out _ _ ⟨((HB.out.cell (World.block_lt_of_cell? w _ hw405_0)).trans hw405_0), ((HB.out.cell (World.block_lt_of_cell? w _ hw406_0)).trans hw406_0)⟩ (fun hHeld => ?_)
                clear hK K
                refine norm_ (a' := ?_) ?_ ?_
                rotate_left
                ·show Act.put _ (some 43) _ = _
                 simp only [Act.put, List.setIfInBounds_toArray, List.set_cons_zero, List.set_cons_succ, i64_w, i32_w]
                 rfl
                refine pure_ (i := 19) (N := some 44) (v := ?_) (a' := ?_) #[true, true, true, true, true, true, true, true, true, true, true, true, true, true, true, true, true, true, true, true, false, true, false] rfl rfl (any_of HT_.out (by kernel_rfl)) (fun _ _ _ h => h) (Or.inl ⟨by rfl, ?_⟩) ?_ ?_
                rotate_left
                ·intro w'
                 go_simp
                 with_reducible rfl
                rotate_left
                ·simp only [Act.put, List.setIfInBounds_toArray, List.set_cons_zero, List.set_cons_succ, i64_w, i32_w]
                 rfl
                refine pure_ (i := 20) (N := some 45) (v := ?_) (a' := ?_) #[true, true, true, true, true, true, true, true, true, true, true, true, true, true, true, true, true, true, true, true, true, true, false] rfl rfl (any_of HT_.out (by kernel_rfl)) (fun _ _ _ h => h) (Or.inl ⟨by rfl, ?_⟩) ?_ ?_
                rotate_left
                ·intro w'
                 go_simp
                 with_reducible rfl
                rotate_left
                ·simp only [Act.put, List.setIfInBounds_toArray, List.set_cons_zero, List.set_cons_succ, i64_w, i32_w]
                 rfl
                exact norm_ (by first | (simp only [putAll, Act.put, List.setIfInBounds_toArray, List.set_cons_zero, List.set_cons_succ]; done) | (simp only [putAll, Act.put, List.setIfInBounds_toArray, List.set_cons_zero, List.set_cons_succ, IntKind.wrap_u32, IntKind.wrap_u8]; done)) (hCont (gb422) _ ⟨hHeld, (by (with_reducible repeat (first | refine kdN ?_ _ | refine kd1 ?_ | refine kal ?_ _)); exact BK401.out), (by (with_reducible repeat (first | refine kdN ?_ _ | refine kd1 ?_ | refine kal ?_ _)); exact BK422.out), GW422.out, GE422.out, NB401_422.out, NB422_401.out, (by repeat (first | (with_reducible first | exact HB.out | apply bal | apply pbN | apply bd1 | refine bst ?_ GE401.out | refine bst ?_ GE422.out) | exact HB.out))⟩)
              ·skip
               refine box_step ?hg (N := 4) ?hd (cs := #[.int .i64 0, .int .i64 0, .int .i64 0, .int .u32 0, .int .i64 0]) (t := 24) ?hr ?_; (case hd => rfl); (case hg => rfl); (case hr => first | (go_simp; done) | (go_simp; rfl))
               intro gb422 hg w29 hbox hb
               have n0_ := Azz.mk (blk_below (g := gb401) (o := .cells #[.int .i64 0, .int .i64 0, .int .i64 0, .int .u32 0, .int .i64 0] 24 (0, 0)) (by (with_reducible repeat (first | refine kdN ?_ _ | refine kd1 ?_ | refine kal ?_ _)); exact BK401.out) hb)
               have n1_ := Azz.mk (below_step (by repeat (first | (with_reducible first | exact HB.out | apply bal | apply pbN | apply bd1 | refine bst ?_ GE401.out) | exact HB.out)) hb)
               have n2_ := Azz.mk (hbox)
               have n3_ := Azz.mk ((by rw [hg]; exact (below_size (by repeat (first | (with_reducible first | exact HB.out | apply bal | apply pbN | apply bd1 | refine bst ?_ GE401.out) | exact HB.out))) : w.heap.size ≤ gb422))
               have n4_ := Azz.mk ((by rw [hg]; exact (below_size (by repeat (first | (with_reducible first | exact HB.out | apply bal | apply pbN | apply bd1 | refine bst ?_ GE401.out) | exact HB.out))) : w.heap.size ≤ gb422))
               have n5_ := Azz.mk ((by rw [hg]; exact Nat.ne_of_lt (blk_lt (g := gb401) (o := .cells #[.int .i64 0, .int .i64 0, .int .i64 0, .int .u32 0, .int .i64 0] 24 (0, 0)) (by (with_reducible repeat (first | refine kdN ?_ _ | refine kd1 ?_ | refine kal ?_ _)); exact BK401.out)) : gb401 ≠ gb422))
               have n6_ := Azz.mk ((by rw [hg]; exact Nat.ne_of_gt (blk_lt (g := gb401) (o := .cells #[.int .i64 0, .int .i64 0, .int .i64 0, .int .u32 0, .int .i64 0] 24 (0, 0)) (by (with_reducible repeat (first | refine kdN ?_ _ | refine kd1 ?_ | refine kal ?_ _)); exact BK401.out)) : gb422 ≠ gb401))
               clear BK401
               clear HB
               have BK401 := n0_
               have HB := n1_
               have BK422 := n2_
               have GW422 := n3_
               have GE422 := n4_
               have NB401_422 := n5_
               have NB422_401 := n6_
               clear n0_ n1_ n2_ n3_ n4_ n5_ n6_
               clear hb hbox hg
               refine hK.out _ _ ⟨((HB.out.cell (World.block_lt_of_cell? w _ hw405_0)).trans hw405_0), ((HB.out.cell (World.block_lt_of_cell? w _ hw406_0)).trans hw406_0)⟩ (fun hHeld => ?_)
               clear hK K
               refine norm_ (a' := ?_) ?_ ?_
               rotate_left
               ·show Act.put _ (some 4) _ = _
                simp only [Act.put, List.setIfInBounds_toArray, List.set_cons_zero, List.set_cons_succ, i64_w, i32_w]
                rfl
               refine one_ (i := 14) (N := some 39) #[true, true, true, true, true, true, true, true, true, true, true, true, true, true, true, false, true, true, false, false, false, true, false] rfl rfl (one_of HT_.out (by kernel_rfl)) (by decide) (fun K hK => ?_)
               refine goes_ Try.func36 (by kernel_rfl) rfl #[.slice A27 y412.length c27] (by rfl) rfl rfl (by (try simp only [List.map_toArray, List.map_cons, List.map_nil]); first | done | rfl | (simp only [List.length_drop, List.length_take]; rfl)) ?_
               with_reducible refine (rf_value.calls kj1 _ _ y412 t416 _ ?side1 ?side2 A17.out).mono ?_
               (case side1 => repeat (first | exact (Kd.C_below HR415.out HB.out) | (with_reducible refine Kd.C_alloc ?_ _) | (with_reducible refine Kd.C_drewN ?_ _) | (with_reducible refine Kd.C_drew ?_)))
               (case side2 => exact HC415.out)
               rintro e w' ⟨rfl, ⟨nd, rfl⟩⟩
               refine ⟨_, rfl, ?_⟩
               refine hK.out _ _ ⟨((HB.out.cell (World.block_lt_of_cell? w _ hw405_0)).trans hw405_0), ((HB.out.cell (World.block_lt_of_cell? w _ hw406_0)).trans hw406_0)⟩ (fun hHeld => ?_)
               clear hK K
               refine norm_ (a' := ?_) ?_ ?_
               rotate_left
               ·show Act.put _ (some 39) _ = _
                simp only [Act.put, List.setIfInBounds_toArray, List.set_cons_zero, List.set_cons_succ, i64_w, i32_w]
                rfl
               refine pure_ (i := 15) (N := some 40) (v := ?_) (a' := ?_) #[true, true, true, true, true, true, true, true, true, true, true, true, true, true, true, true, true, true, false, false, false, true, false] rfl rfl (any_of HT_.out (by kernel_rfl)) (fun _ _ _ h => h) (Or.inl ⟨by rfl, ?_⟩) ?_ ?_
               rotate_left
               ·intro w'
                go_simp
                with_reducible rfl
               rotate_left
               ·simp only [Act.put, List.setIfInBounds_toArray, List.set_cons_zero, List.set_cons_succ, i64_w, i32_w]
                rfl
               refine one_ (i := 18) (N := some 43) #[true, true, true, true, true, true, true, true, true, true, true, true, true, true, true, true, true, true, true, false, false, true, false] rfl rfl (one_of HT_.out (by kernel_rfl)) (by decide) (fun K hK => ?_)
               refine goes_ Try.func36 (by kernel_rfl) rfl #[.slice A28 y417.length c28] (by rfl) rfl rfl (by (try simp only [List.map_toArray, List.map_cons, List.map_nil]); first | done | rfl | (simp only [List.length_drop, List.length_take]; rfl)) ?_
               with_reducible refine (rf_value.calls kj1 _ _ y417 t421 _ ?side1 ?side2 A19.out).mono ?_
               (case side1 => repeat (first | exact (Kd.C_below HR420.out (by repeat (first | (with_reducible first | exact HB.out | apply bal | apply pbN | apply bd1 | refine bst ?_ GE401.out | refine bst ?_ GE422.out) | exact HB.out))) | (with_reducible refine Kd.C_alloc ?_ _) | (with_reducible refine Kd.C_drewN ?_ _) | (with_reducible refine Kd.C_drew ?_)))
               (case side2 => exact HC420.out)
               rintro e w' ⟨rfl, ⟨nd, rfl⟩⟩
               refine ⟨_, rfl, ?_⟩
               refine hK.out _ _ ⟨((HB.out.cell (World.block_lt_of_cell? w _ hw405_0)).trans hw405_0), ((HB.out.cell (World.block_lt_of_cell? w _ hw406_0)).trans hw406_0)⟩ (fun hHeld => ?_)
               clear hK K
               refine norm_ (a' := ?_) ?_ ?_
               rotate_left
               ·show Act.put _ (some 43) _ = _
                simp only [Act.put, List.setIfInBounds_toArray, List.set_cons_zero, List.set_cons_succ, i64_w, i32_w]
                rfl
               refine pure_ (i := 19) (N := some 44) (v := ?_) (a' := ?_) #[true, true, true, true, true, true, true, true, true, true, true, true, true, true, true, true, true, true, true, true, false, true, false] rfl rfl (any_of HT_.out (by kernel_rfl)) (fun _ _ _ h => h) (Or.inl ⟨by rfl, ?_⟩) ?_ ?_
               rotate_left
               ·intro w'
                go_simp
                with_reducible rfl
               rotate_left
               ·simp only [Act.put, List.setIfInBounds_toArray, List.set_cons_zero, List.set_cons_succ, i64_w, i32_w]
                rfl
               refine pure_ (i := 20) (N := some 45) (v := ?_) (a' := ?_) #[true, true, true, true, true, true, true, true, true, true, true, true, true, true, true, true, true, true, true, true, true, true, false] rfl rfl (any_of HT_.out (by kernel_rfl)) (fun _ _ _ h => h) (Or.inl ⟨by rfl, ?_⟩) ?_ ?_
               rotate_left
               ·intro w'
                go_simp
                with_reducible rfl
               rotate_left
               ·simp only [Act.put, List.setIfInBounds_toArray, List.set_cons_zero, List.set_cons_succ, i64_w, i32_w]
                rfl
               exact norm_ (by first | (simp only [putAll, Act.put, List.setIfInBounds_toArray, List.set_cons_zero, List.set_cons_succ]; done) | (simp only [putAll, Act.put, List.setIfInBounds_toArray, List.set_cons_zero, List.set_cons_succ, IntKind.wrap_u32, IntKind.wrap_u8]; done)) (hCont (gb422) _ ⟨hHeld, (by (with_reducible repeat (first | refine kdN ?_ _ | refine kd1 ?_ | refine kal ?_ _)); exact BK401.out), (by (with_reducible repeat (first | refine kdN ?_ _ | refine kd1 ?_ | refine kal ?_ _)); exact BK422.out), GW422.out, GE422.out, NB401_422.out, NB422_401.out, (by repeat (first | (with_reducible first | exact HB.out | apply bal | apply pbN | apply bd1 | refine bst ?_ GE401.out | refine bst ?_ GE422.out) | exact HB.out))⟩)
             ·skip
              refine box_step ?hg (N := 4) ?hd (cs := #[.int .i64 0, .int .i64 0, .int .i64 0, .int .u32 0, .int .i64 0]) (t := 24) ?hr ?_; (case hd => rfl); (case hg => rfl); (case hr => first | (go_simp; done) | (go_simp; rfl))
              intro gb422 hg w29 hbox hb
              have n0_ := Azz.mk (blk_below (g := gb401) (o := .cells #[.int .i64 0, .int .i64 0, .int .i64 0, .int .u32 0, .int .i64 0] 24 (0, 0)) (by (with_reducible repeat (first | refine kdN ?_ _ | refine kd1 ?_ | refine kal ?_ _)); exact BK401.out) hb)
              have n1_ := Azz.mk (below_step (by repeat (first | (with_reducible first | exact HB.out | apply bal | apply pbN | apply bd1 | refine bst ?_ GE401.out) | exact HB.out)) hb)
              have n2_ := Azz.mk (hbox)
              have n3_ := Azz.mk ((by rw [hg]; exact (below_size (by repeat (first | (with_reducible first | exact HB.out | apply bal | apply pbN | apply bd1 | refine bst ?_ GE401.out) | exact HB.out))) : w.heap.size ≤ gb422))
              have n4_ := Azz.mk ((by rw [hg]; exact (below_size (by repeat (first | (with_reducible first | exact HB.out | apply bal | apply pbN | apply bd1 | refine bst ?_ GE401.out) | exact HB.out))) : w.heap.size ≤ gb422))
              have n5_ := Azz.mk ((by rw [hg]; exact Nat.ne_of_lt (blk_lt (g := gb401) (o := .cells #[.int .i64 0, .int .i64 0, .int .i64 0, .int .u32 0, .int .i64 0] 24 (0, 0)) (by (with_reducible repeat (first | refine kdN ?_ _ | refine kd1 ?_ | refine kal ?_ _)); exact BK401.out)) : gb401 ≠ gb422))
              have n6_ := Azz.mk ((by rw [hg]; exact Nat.ne_of_gt (blk_lt (g := gb401) (o := .cells #[.int .i64 0, .int .i64 0, .int .i64 0, .int .u32 0, .int .i64 0] 24 (0, 0)) (by (with_reducible repeat (first | refine kdN ?_ _ | refine kd1 ?_ | refine kal ?_ _)); exact BK401.out)) : gb422 ≠ gb401))
              clear BK401
              clear HB
              have BK401 := n0_
              have HB := n1_
              have BK422 := n2_
              have GW422 := n3_
              have GE422 := n4_
              have NB401_422 := n5_
              have NB422_401 := n6_
              clear n0_ n1_ n2_ n3_ n4_ n5_ n6_
              clear hb hbox hg
              refine hK.out _ _ ⟨((HB.out.cell (World.block_lt_of_cell? w _ hw405_0)).trans hw405_0), ((HB.out.cell (World.block_lt_of_cell? w _ hw406_0)).trans hw406_0)⟩ (fun hHeld => ?_)
              clear hK K
              refine norm_ (a' := ?_) ?_ ?_
              rotate_left
              ·show Act.put _ (some 4) _ = _
               simp only [Act.put, List.setIfInBounds_toArray, List.set_cons_zero, List.set_cons_succ, i64_w, i32_w]
               rfl
              refine one_ (i := 10) (N := some 35) #[true, true, true, true, true, true, true, true, true, true, true, false, true, true, false, false, true, true, false, false, false, true, false] rfl rfl (one_of HT_.out (by kernel_rfl)) (by decide) (fun K hK => ?_)
              refine goes_ Try.func36 (by kernel_rfl) rfl #[.slice A26 y407.length c26] (by rfl) rfl rfl (by (try simp only [List.map_toArray, List.map_cons, List.map_nil]); first | done | rfl | (simp only [List.length_drop, List.length_take]; rfl)) ?_
              with_reducible refine (rf_value.calls kj1 _ _ y407 t411 _ ?side1 ?side2 A15.out).mono ?_
              (case side1 => repeat (first | exact (Kd.C_below HR410.out HB.out) | (with_reducible refine Kd.C_alloc ?_ _) | (with_reducible refine Kd.C_drewN ?_ _) | (with_reducible refine Kd.C_drew ?_)))
              (case side2 => exact HC410.out)
              rintro e w' ⟨rfl, ⟨nd, rfl⟩⟩
              refine ⟨_, rfl, ?_⟩
              refine hK.out _ _ ⟨((HB.out.cell (World.block_lt_of_cell? w _ hw405_0)).trans hw405_0), ((HB.out.cell (World.block_lt_of_cell? w _ hw406_0)).trans hw406_0)⟩ (fun hHeld => ?_)
              clear hK K
              refine norm_ (a' := ?_) ?_ ?_
              rotate_left
              ·show Act.put _ (some 35) _ = _
               simp only [Act.put, List.setIfInBounds_toArray, List.set_cons_zero, List.set_cons_succ, i64_w, i32_w]
               rfl
              refine pure_ (i := 11) (N := some 36) (v := ?_) (a' := ?_) #[true, true, true, true, true, true, true, true, true, true, true, true, true, true, false, false, true, true, false, false, false, true, false] rfl rfl (any_of HT_.out (by kernel_rfl)) (fun _ _ _ h => h) (Or.inl ⟨by rfl, ?_⟩) ?_ ?_
              rotate_left
              ·intro w'
               go_simp
               with_reducible rfl
              rotate_left
              ·simp only [Act.put, List.setIfInBounds_toArray, List.set_cons_zero, List.set_cons_succ, i64_w, i32_w]
               rfl
              refine one_ (i := 14) (N := some 39) #[true, true, true, true, true, true, true, true, true, true, true, true, true, true, true, false, true, true, false, false, false, true, false] rfl rfl (one_of HT_.out (by kernel_rfl)) (by decide) (fun K hK => ?_)
              refine goes_ Try.func36 (by kernel_rfl) rfl #[.slice A27 y412.length c27] (by rfl) rfl rfl (by (try simp only [List.map_toArray, List.map_cons, List.map_nil]); first | done | rfl | (simp only [List.length_drop, List.length_take]; rfl)) ?_
              with_reducible refine (rf_value.calls kj1 _ _ y412 t416 _ ?side1 ?side2 A17.out).mono ?_
              (case side1 => repeat (first | exact (Kd.C_below HR415.out (by repeat (first | (with_reducible first | exact HB.out | apply bal | apply pbN | apply bd1 | refine bst ?_ GE401.out | refine bst ?_ GE422.out) | exact HB.out))) | (with_reducible refine Kd.C_alloc ?_ _) | (with_reducible refine Kd.C_drewN ?_ _) | (with_reducible refine Kd.C_drew ?_)))
              (case side2 => exact HC415.out)
              rintro e w' ⟨rfl, ⟨nd, rfl⟩⟩
              refine ⟨_, rfl, ?_⟩
              refine hK.out _ _ ⟨((HB.out.cell (World.block_lt_of_cell? w _ hw405_0)).trans hw405_0), ((HB.out.cell (World.block_lt_of_cell? w _ hw406_0)).trans hw406_0)⟩ (fun hHeld => ?_)
              clear hK K
              refine norm_ (a' := ?_) ?_ ?_
              rotate_left
              ·show Act.put _ (some 39) _ = _
               simp only [Act.put, List.setIfInBounds_toArray, List.set_cons_zero, List.set_cons_succ, i64_w, i32_w]
               rfl
              refine pure_ (i := 15) (N := some 40) (v := ?_) (a' := ?_) #[true, true, true, true, true, true, true, true, true, true, true, true, true, true, true, true, true, true, false, false, false, true, false] rfl rfl (any_of HT_.out (by kernel_rfl)) (fun _ _ _ h => h) (Or.inl ⟨by rfl, ?_⟩) ?_ ?_
              rotate_left
              ·intro w'
               go_simp
               with_reducible rfl
              rotate_left
              ·simp only [Act.put, List.setIfInBounds_toArray, List.set_cons_zero, List.set_cons_succ, i64_w, i32_w]
               rfl
              refine one_ (i := 18) (N := some 43) #[true, true, true, true, true, true, true, true, true, true, true, true, true, true, true, true, true, true, true, false, false, true, false] rfl rfl (one_of HT_.out (by kernel_rfl)) (by decide) (fun K hK => ?_)
              refine goes_ Try.func36 (by kernel_rfl) rfl #[.slice A28 y417.length c28] (by rfl) rfl rfl (by (try simp only [List.map_toArray, List.map_cons, List.map_nil]); first | done | rfl | (simp only [List.length_drop, List.length_take]; rfl)) ?_
              with_reducible refine (rf_value.calls kj1 _ _ y417 t421 _ ?side1 ?side2 A19.out).mono ?_
              (case side1 => repeat (first | exact (Kd.C_below HR420.out (by repeat (first | (with_reducible first | exact HB.out | apply bal | apply pbN | apply bd1 | refine bst ?_ GE401.out | refine bst ?_ GE422.out) | exact HB.out))) | (with_reducible refine Kd.C_alloc ?_ _) | (with_reducible refine Kd.C_drewN ?_ _) | (with_reducible refine Kd.C_drew ?_)))
              (case side2 => exact HC420.out)
              rintro e w' ⟨rfl, ⟨nd, rfl⟩⟩
              refine ⟨_, rfl, ?_⟩
              refine hK.out _ _ ⟨((HB.out.cell (World.block_lt_of_cell? w _ hw405_0)).trans hw405_0), ((HB.out.cell (World.block_lt_of_cell? w _ hw406_0)).trans hw406_0)⟩ (fun hHeld => ?_)
              clear hK K
              refine norm_ (a' := ?_) ?_ ?_
              rotate_left
              ·show Act.put _ (some 43) _ = _
               simp only [Act.put, List.setIfInBounds_toArray, List.set_cons_zero, List.set_cons_succ, i64_w, i32_w]
               rfl
              refine pure_ (i := 19) (N := some 44) (v := ?_) (a' := ?_) #[true, true, true, true, true, true, true, true, true, true, true, true, true, true, true, true, true, true, true, true, false, true, false] rfl rfl (any_of HT_.out (by kernel_rfl)) (fun _ _ _ h => h) (Or.inl ⟨by rfl, ?_⟩) ?_ ?_
              rotate_left
              ·intro w'
               go_simp
               with_reducible rfl
              rotate_left
              ·simp only [Act.put, List.setIfInBounds_toArray, List.set_cons_zero, List.set_cons_succ, i64_w, i32_w]
               rfl
              refine pure_ (i := 20) (N := some 45) (v := ?_) (a' := ?_) #[true, true, true, true, true, true, true, true, true, true, true, true, true, true, true, true, true, true, true, true, true, true, false] rfl rfl (any_of HT_.out (by kernel_rfl)) (fun _ _ _ h => h) (Or.inl ⟨by rfl, ?_⟩) ?_ ?_
              rotate_left
              ·intro w'
               go_simp
               with_reducible rfl
              rotate_left
              ·simp only [Act.put, List.setIfInBounds_toArray, List.set_cons_zero, List.set_cons_succ, i64_w, i32_w]
               rfl
              exact norm_ (by first | (simp only [putAll, Act.put, List.setIfInBounds_toArray, List.set_cons_zero, List.set_cons_succ]; done) | (simp only [putAll, Act.put, List.setIfInBounds_toArray, List.set_cons_zero, List.set_cons_succ, IntKind.wrap_u32, IntKind.wrap_u8]; done)) (hCont (gb422) _ ⟨hHeld, (by (with_reducible repeat (first | refine kdN ?_ _ | refine kd1 ?_ | refine kal ?_ _)); exact BK401.out), (by (with_reducible repeat (first | refine kdN ?_ _ | refine kd1 ?_ | refine kal ?_ _)); exact BK422.out), GW422.out, GE422.out, NB401_422.out, NB422_401.out, (by repeat (first | (with_reducible first | exact HB.out | apply bal | apply pbN | apply bd1 | refine bst ?_ GE401.out | refine bst ?_ GE422.out) | exact HB.out))⟩)
            rintro gb422 w30 ⟨hS_, h0_, h1_, h2_, h3_, h4_, h5_, h6_⟩
            have n0_ : Azz (w30.heap[gb401]? = some (.cells #[.int .i64 0, .int .i64 0, .int .i64 0, .int .u32 0, .int .i64 0] 24 (0, 0))) := ⟨h0_⟩
            have n1_ : Azz (w30.heap[gb422]? = some (.cells #[.int .i64 0, .int .i64 0, .int .i64 0, .int .u32 0, .int .i64 0] 24 (0, 0))) := ⟨h1_⟩
            have n2_ : Azz (w.heap.size ≤ gb422) := ⟨h2_⟩
            have n3_ : Azz (w.heap.size ≤ gb422) := ⟨h3_⟩
            have n4_ : Azz (gb401 ≠ gb422) := ⟨h4_⟩
            have n5_ : Azz (gb422 ≠ gb401) := ⟨h5_⟩
            have n6_ : Azz (Below w.heap.size w w30) := ⟨h6_⟩
            clear BK401
            clear HB
            clear h0_ h1_ h2_ h3_ h4_ h5_ h6_
            have BK401 := n0_
            have BK422 := n1_
            have GW422 := n2_
            have GE422 := n3_
            have NB401_422 := n4_
            have NB422_401 := n5_
            have HB := n6_
            clear n0_ n1_ n2_ n3_ n4_ n5_ n6_
            have hHeld : w30.cell? ⟨ad405.block, ad405.off + 2, none⟩ = some (.int .u8 (rd l0 2)) ∧ w30.cell? ⟨ad405.block, ad405.off + 3, none⟩ = some (.int .u8 (rd l0 3)) := hS_
            refine norm_ (a' := ?_) ?_ ?_
            rotate_left
            ·simp only [putAll, Act.put, List.setIfInBounds_toArray, List.set_cons_zero, List.set_cons_succ]
             rfl
            refine one_ (i := 22) (N := none) #[true, true, true, true, true, true, true, true, true, true, true, true, true, true, true, true, true, true, true, true, true, true, true] rfl rfl (one_of HT_.out (by kernel_rfl)) (by decide) (fun K hK => ?_)
            have hs31 : World.cell? _ ⟨gb422, 0, none⟩ = some (.int .i64 0) := (kcl BK422.out 0).trans rfl
            have hfs31 := kfz BK422.out 0
            have hns31_0 := NB401_422.out
            have hms31_0 := NB422_401.out
            have hs32 : World.cell? _ ⟨gb422, 1, none⟩ = some (.int .i64 0) := (kcl BK422.out 1).trans rfl
            have hfs32 := kfz BK422.out 1
            have hns32_0 := NB401_422.out
            have hms32_0 := NB422_401.out
            have hs33 : World.cell? _ ⟨gb422, 2, none⟩ = some (.int .i64 0) := (kcl BK422.out 2).trans rfl
            have hfs33 := kfz BK422.out 2
            have hns33_0 := NB401_422.out
            have hms33_0 := NB422_401.out
            have hs34 : World.cell? _ ⟨gb422, 3, none⟩ = some (.int .u32 0) := (kcl BK422.out 3).trans rfl
            have hfs34 := kfz BK422.out 3
            have hns34_0 := NB401_422.out
            have hms34_0 := NB422_401.out
            have hs35 : World.cell? _ ⟨gb422, 4, none⟩ = some (.int .i64 0) := (kcl BK422.out 4).trans rfl
            have hfs35 := kfz BK422.out 4
            have hns35_0 := NB401_422.out
            have hms35_0 := NB422_401.out
            refine skip_ (w1 := ?_) (by rfl) rfl ?_ ?_
            rotate_left
            ·go_simp
             rfl
            refine hK.out _ _ ⟨((cell_far (p := ⟨gb422, _, none⟩) (cell_ne hw405_0 GW422.out) _).trans (((cell_far (p := ⟨gb422, _, none⟩) (cell_ne hw405_0 GW422.out) _).trans (((cell_far (p := ⟨gb422, _, none⟩) (cell_ne hw405_0 GW422.out) _).trans (((cell_far (p := ⟨gb422, _, none⟩) (cell_ne hw405_0 GW422.out) _).trans (((cell_far (p := ⟨gb422, _, none⟩) (cell_ne hw405_0 GW422.out) _).trans (hHeld.1)))))))))), ((cell_far (p := ⟨gb422, _, none⟩) (cell_ne hw406_0 GW422.out) _).trans (((cell_far (p := ⟨gb422, _, none⟩) (cell_ne hw406_0 GW422.out) _).trans (((cell_far (p := ⟨gb422, _, none⟩) (cell_ne hw406_0 GW422.out) _).trans (((cell_far (p := ⟨gb422, _, none⟩) (cell_ne hw406_0 GW422.out) _).trans (((cell_far (p := ⟨gb422, _, none⟩) (cell_ne hw406_0 GW422.out) _).trans (hHeld.2))))))))))⟩ (fun hHeld => ?_)
            clear hK K
            refine done_ (done_of HT_.out (by kernel_rfl)) ?_
            have hnb36 := NB422_401.out
            have hnc36 := NB401_422.out
            have hcz37_0 : World.cell? _ ⟨gb422, 0, none⟩ = some (.int .i64 0) := (kcl BK422.out 0).trans rfl
            have hcz37_1 : World.cell? _ ⟨gb422, 1, none⟩ = some (.int .i64 0) := (kcl BK422.out 1).trans rfl
            have hcz37_2 : World.cell? _ ⟨gb422, 2, none⟩ = some (.int .i64 0) := (kcl BK422.out 2).trans rfl
            have hcz37_3 : World.cell? _ ⟨gb422, 3, none⟩ = some (.int .u32 0) := (kcl BK422.out 3).trans rfl
            have hcz37_4 : World.cell? _ ⟨gb422, 4, none⟩ = some (.int .i64 0) := (kcl BK422.out 4).trans rfl
            have hfz37_0 := kfz BK422.out 0
            have hfz37_1 := kfz BK422.out 1
            have hfz37_2 := kfz BK422.out 2
            have hfz37_3 := kfz BK422.out 3
            have hfz37_4 := kfz BK422.out 4
            try go_wp2_with (first | ((with_reducible refine gate_callee (f := 13) rfl ?_); refine goesL_ (some 47) rfl rfl Try.func13 (by kernel_rfl) rfl #[.agg #[.int .i64 (wrap64 (rd l0 2)), .int .i64 (wrap64 (rd l0 3)), .int .i64 (wrap64 (t411)), .int .u32 ((t416) % 4294967296), .int .i64 (wrap64 (t421))]] rfl (by (try simp only [List.map_toArray, List.map_cons, List.map_nil]); first | done | rfl | (simp only [List.length_drop, List.length_take]; rfl)) ?_; (with_reducible refine (rf_RightControl.calls (wrap64 (rd l0 2)) (wrap64 (rd l0 3)) (wrap64 (t411)) ((t416) % 4294967296) (wrap64 (t421)) true _ A20.out).mono ?_); rintro e w38 ⟨rfl, hb⟩; refine ⟨_, rfl, ?_⟩; have n0_ := Azz.mk (blk_below (g := gb401) (o := .cells #[.int .i64 0, .int .i64 0, .int .i64 0, .int .u32 0, .int .i64 0] 24 (0, 0)) (by (with_reducible repeat (first | refine kdN ?_ _ | refine kd1 ?_ | refine kal ?_ _)); refine blk_far ?_ NB401_422.out _; (with_reducible repeat (first | refine kdN ?_ _ | refine kd1 ?_ | refine kal ?_ _)); refine blk_far ?_ NB401_422.out _; (with_reducible repeat (first | refine kdN ?_ _ | refine kd1 ?_ | refine kal ?_ _)); refine blk_far ?_ NB401_422.out _; (with_reducible repeat (first | refine kdN ?_ _ | refine kd1 ?_ | refine kal ?_ _)); refine blk_far ?_ NB401_422.out _; (with_reducible repeat (first | refine kdN ?_ _ | refine kd1 ?_ | refine kal ?_ _)); refine blk_far ?_ NB401_422.out _; (with_reducible repeat (first | refine kdN ?_ _ | refine kd1 ?_ | refine kal ?_ _)); exact BK401.out) hb); have n1_ := Azz.mk (blk_below (g := gb422) (o := .cells #[.int .i64 (wrap64 (rd l0 2)), .int .i64 (wrap64 (rd l0 3)), .int .i64 (wrap64 (t411)), .int .u32 ((t416) % 4294967296), .int .i64 (wrap64 (t421))] 24 (0, 0)) (by (with_reducible repeat (first | refine kdN ?_ _ | refine kd1 ?_ | refine kal ?_ _)); refine blk_put (cs := #[.int .i64 (wrap64 (rd l0 2)), .int .i64 (wrap64 (rd l0 3)), .int .i64 (wrap64 (t411)), .int .u32 ((t416) % 4294967296), .int .i64 0]) ?_ 4 _ rfl; (with_reducible repeat (first | refine kdN ?_ _ | refine kd1 ?_ | refine kal ?_ _)); refine blk_put (cs := #[.int .i64 (wrap64 (rd l0 2)), .int .i64 (wrap64 (rd l0 3)), .int .i64 (wrap64 (t411)), .int .u32 0, .int .i64 0]) ?_ 3 _ rfl; (with_reducible repeat (first | refine kdN ?_ _ | refine kd1 ?_ | refine kal ?_ _)); refine blk_put (cs := #[.int .i64 (wrap64 (rd l0 2)), .int .i64 (wrap64 (rd l0 3)), .int .i64 0, .int .u32 0, .int .i64 0]) ?_ 2 _ rfl; (with_reducible repeat (first | refine kdN ?_ _ | refine kd1 ?_ | refine kal ?_ _)); refine blk_put (cs := #[.int .i64 (wrap64 (rd l0 2)), .int .i64 0, .int .i64 0, .int .u32 0, .int .i64 0]) ?_ 1 _ rfl; (with_reducible repeat (first | refine kdN ?_ _ | refine kd1 ?_ | refine kal ?_ _)); refine blk_put (cs := #[.int .i64 0, .int .i64 0, .int .i64 0, .int .u32 0, .int .i64 0]) ?_ 0 _ rfl; (with_reducible repeat (first | refine kdN ?_ _ | refine kd1 ?_ | refine kal ?_ _)); exact BK422.out) hb); have n2_ := Azz.mk (below_step (by repeat (first | (with_reducible first | exact HB.out | apply bal | apply pbN | apply bd1 | refine bst ?_ GE401.out | refine bst ?_ GE422.out) | exact HB.out)) hb); clear BK401; clear BK422; clear HB; have BK401 := n0_; have BK422 := n1_; have HB := n2_; clear n0_ n1_ n2_; (try clear hb); (try clear hb2); (try clear hk); (try clear hi); have hcz39_0 : World.cell? _ ⟨gb422, 0, none⟩ = some (.int .i64 (wrap64 (rd l0 2))) := (kcl BK422.out 0).trans rfl; have hcz39_1 : World.cell? _ ⟨gb422, 1, none⟩ = some (.int .i64 (wrap64 (rd l0 3))) := (kcl BK422.out 1).trans rfl; have hcz39_2 : World.cell? _ ⟨gb422, 2, none⟩ = some (.int .i64 (wrap64 (t411))) := (kcl BK422.out 2).trans rfl; have hcz39_3 : World.cell? _ ⟨gb422, 3, none⟩ = some (.int .u32 ((t416) % 4294967296)) := (kcl BK422.out 3).trans rfl; have hcz39_4 : World.cell? _ ⟨gb422, 4, none⟩ = some (.int .i64 (wrap64 (t421))) := (kcl BK422.out 4).trans rfl; have hfz39_0 := kfz BK422.out 0; have hfz39_1 := kfz BK422.out 1; have hfz39_2 := kfz BK422.out 2; have hfz39_3 := kfz BK422.out 3; have hfz39_4 := kfz BK422.out 4) | (go_at_call 15; (with_reducible refine (rf_Control.calls kj1 (wrap64 (rd l0 2)) (wrap64 (rd l0 3)) (wrap64 (t411)) ((t416) % 4294967296) (wrap64 (t421)) t424 _ A22.out).mono ?_); rintro e w40 ⟨v425, rfl, ho0, hb⟩; have n0_ := Azz.mk (Kd.R_lower ho0 (below_size (by repeat (first | (with_reducible first | exact HB.out | apply bal | apply pbN | apply bd1 | refine bst ?_ GE401.out | refine bst ?_ GE422.out) | exact HB.out)))); have n1_ := Azz.mk (blk_below (g := gb401) (o := .cells #[.int .i64 0, .int .i64 0, .int .i64 0, .int .u32 0, .int .i64 0] 24 (0, 0)) (by (with_reducible repeat (first | refine kdN ?_ _ | refine kd1 ?_ | refine kal ?_ _)); exact BK401.out) hb); have n2_ := Azz.mk (blk_below (g := gb422) (o := .cells #[.int .i64 (wrap64 (rd l0 2)), .int .i64 (wrap64 (rd l0 3)), .int .i64 (wrap64 (t411)), .int .u32 ((t416) % 4294967296), .int .i64 (wrap64 (t421))] 24 (0, 0)) (by (with_reducible repeat (first | refine kdN ?_ _ | refine kd1 ?_ | refine kal ?_ _)); exact BK422.out) hb); have n3_ := Azz.mk (below_step (by repeat (first | (with_reducible first | exact HB.out | apply bal | apply pbN | apply bd1 | refine bst ?_ GE401.out | refine bst ?_ GE422.out) | exact HB.out)) hb); clear BK401; clear BK422; clear HB; have HO426 := n0_; have BK401 := n1_; have BK422 := n2_; have HB := n3_; clear n0_ n1_ n2_ n3_; (try clear hb); (try clear hb2); (try clear hk); (try clear hi); (try clear ho0); obtain ⟨Ao41, co41, eo41⟩ := Kd.R_slice HO426.out; subst eo41) | (go_at_call 37; (with_reducible refine (rf_same.calls _ _ t424 _ _ l0 true _ ?side1 ?side2 ?side3 ?side4 A23.out).mono ?_); (case side1 => repeat (first | exact (Kd.R_reads' HO426.out).2.2 | (with_reducible refine Kd.C_alloc ?_ _) | (with_reducible refine Kd.C_drewN ?_ _) | (with_reducible refine Kd.C_drew ?_))); (case side2 => exact (Kd.R_reads' HO426.out).2.1); (case side3 => repeat (first | exact (Kd.C_below HR0.out HB.out) | (with_reducible refine Kd.C_alloc ?_ _) | (with_reducible refine Kd.C_drewN ?_ _) | (with_reducible refine Kd.C_drew ?_))); (case side4 => exact HC0.out); rintro e w' ⟨rfl, ⟨nd, rfl⟩⟩; (try (rw [drewN_self w40]; generalize hq_ : World.drewN w40 _ = w40; have n0_ : Azz (Kd.R (Kd.int .u8) 5 w40 w.heap.size (fun _ => True) (.slice Ao41 t424.length co41) t424) := ⟨by rw [← hq_]; exact (by (with_reducible repeat (first | apply Kd.R_alloc | apply Kd.R_drewN | apply Kd.R_drew)); exact HO426.out)⟩; have n1_ : Azz (w40.heap[gb401]? = some (.cells #[.int .i64 0, .int .i64 0, .int .i64 0, .int .u32 0, .int .i64 0] 24 (0, 0))) := ⟨by rw [← hq_]; exact (by (with_reducible repeat (first | refine kdN ?_ _ | refine kd1 ?_ | refine kal ?_ _)); exact BK401.out)⟩; have n2_ : Azz (w40.heap[gb422]? = some (.cells #[.int .i64 (wrap64 (rd l0 2)), .int .i64 (wrap64 (rd l0 3)), .int .i64 (wrap64 (t411)), .int .u32 ((t416) % 4294967296), .int .i64 (wrap64 (t421))] 24 (0, 0))) := ⟨by rw [← hq_]; exact (by (with_reducible repeat (first | refine kdN ?_ _ | refine kd1 ?_ | refine kal ?_ _)); exact BK422.out)⟩; have n3_ : Azz (Below w.heap.size w w40) := ⟨by rw [← hq_]; exact (by repeat (first | (with_reducible first | exact HB.out | apply bal | apply pbN | apply bd1 | refine bst ?_ GE401.out | refine bst ?_ GE422.out) | exact HB.out))⟩; clear HO426 BK401 BK422 HB hq_; have HO426 := n0_; have BK401 := n1_; have BK422 := n2_; have HB := n3_; clear n0_ n1_ n2_ n3_)); have hcz42_0 : World.cell? _ ⟨gb422, 0, none⟩ = some (.int .i64 (wrap64 (rd l0 2))) := (kcl BK422.out 0).trans rfl; have hcz42_1 : World.cell? _ ⟨gb422, 1, none⟩ = some (.int .i64 (wrap64 (rd l0 3))) := (kcl BK422.out 1).trans rfl; have hcz42_2 : World.cell? _ ⟨gb422, 2, none⟩ = some (.int .i64 (wrap64 (t411))) := (kcl BK422.out 2).trans rfl; have hcz42_3 : World.cell? _ ⟨gb422, 3, none⟩ = some (.int .u32 ((t416) % 4294967296)) := (kcl BK422.out 3).trans rfl; have hcz42_4 : World.cell? _ ⟨gb422, 4, none⟩ = some (.int .i64 (wrap64 (t421))) := (kcl BK422.out 4).trans rfl; have hfz42_0 := kfz BK422.out 0; have hfz42_1 := kfz BK422.out 1; have hfz42_2 := kfz BK422.out 2; have hfz42_3 := kfz BK422.out 3; have hfz42_4 := kfz BK422.out 4; have hcz43_0 : World.cell? _ ⟨gb401, 0, none⟩ = some (.int .i64 0) := (kcl BK401.out 0).trans rfl; have hcz43_1 : World.cell? _ ⟨gb401, 1, none⟩ = some (.int .i64 0) := (kcl BK401.out 1).trans rfl; have hcz43_2 : World.cell? _ ⟨gb401, 2, none⟩ = some (.int .i64 0) := (kcl BK401.out 2).trans rfl; have hcz43_3 : World.cell? _ ⟨gb401, 3, none⟩ = some (.int .u32 0) := (kcl BK401.out 3).trans rfl; have hcz43_4 : World.cell? _ ⟨gb401, 4, none⟩ = some (.int .i64 0) := (kcl BK401.out 4).trans rfl; have hfz43_0 := kfz BK401.out 0; have hfz43_1 := kfz BK401.out 1; have hfz43_2 := kfz BK401.out 2; have hfz43_3 := kfz BK401.out 3; have hfz43_4 := kfz BK401.out 4))
            refine bodyPost_ret (results_ct rfl _ _ gb401 24 #[.int .i64 (wrap64 (rd l0 2)), .int .i64 (wrap64 (rd l0 3)), .int .i64 (wrap64 (t411)), .int .u32 ((t416) % 4294967296), .int .i64 (wrap64 (t421))] (0, 0) _ rfl (by (with_reducible repeat (first | refine kdN ?_ _ | refine kd1 ?_ | refine kal ?_ _)); refine blk_put (cs := #[.int .i64 (wrap64 (rd l0 2)), .int .i64 (wrap64 (rd l0 3)), .int .i64 (wrap64 (t411)), .int .u32 ((t416) % 4294967296), .int .i64 0]) ?_ 4 _ rfl; (with_reducible repeat (first | refine kdN ?_ _ | refine kd1 ?_ | refine kal ?_ _)); refine blk_put (cs := #[.int .i64 (wrap64 (rd l0 2)), .int .i64 (wrap64 (rd l0 3)), .int .i64 (wrap64 (t411)), .int .u32 0, .int .i64 0]) ?_ 3 _ rfl; (with_reducible repeat (first | refine kdN ?_ _ | refine kd1 ?_ | refine kal ?_ _)); refine blk_put (cs := #[.int .i64 (wrap64 (rd l0 2)), .int .i64 (wrap64 (rd l0 3)), .int .i64 0, .int .u32 0, .int .i64 0]) ?_ 2 _ rfl; (with_reducible repeat (first | refine kdN ?_ _ | refine kd1 ?_ | refine kal ?_ _)); refine blk_put (cs := #[.int .i64 (wrap64 (rd l0 2)), .int .i64 0, .int .i64 0, .int .u32 0, .int .i64 0]) ?_ 1 _ rfl; (with_reducible repeat (first | refine kdN ?_ _ | refine kd1 ?_ | refine kal ?_ _)); refine blk_put (cs := #[.int .i64 0, .int .i64 0, .int .i64 0, .int .u32 0, .int .i64 0]) ?_ 0 _ rfl; (with_reducible repeat (first | refine kdN ?_ _ | refine kd1 ?_ | refine kal ?_ _)); exact BK401.out) Try.underlying24 rfl (by kernel_rfl)) rfl ?_
            exact ⟨by first | rfl | (simp [errW_none, errW_some] <;> rfl) | (simp [*, errW_none, errW_some] <;> rfl), by repeat (first | (with_reducible first | exact HB.out | apply bal | apply pbN | apply bd1 | refine bst ?_ GE401.out | refine bst ?_ GE422.out) | exact HB.out)⟩
           ·replace c24 := Bool.eq_false_iff.mpr c24
            subst c24
            have H1 : (some (0, 0, 0, 0, 0, 2)) = some (r1, r2, r3, r4, r5, r6) := by rw [if_neg (show ¬ (false = true) by decide)] at H; exact H
            clear H
            have H := H1
            clear H1
            simp only [Option.some.injEq, Prod.mk.injEq] at H
            obtain ⟨rfl, rfl, rfl, rfl, rfl, rfl⟩ := H
            try go_wp2_with (first | ((with_reducible refine gate_callee (f := 35) rfl ?_); refine goesL_ (some 22) rfl rfl Try.func35 (by kernel_rfl) rfl #[.slice A0 l0.length c0] rfl (by (try simp only [List.map_toArray, List.map_cons, List.map_nil]); first | done | rfl | (simp only [List.length_drop, List.length_take]; rfl)) ?_; (with_reducible refine (rf_sum.calls kj1 _ _ l0 true _ ?side1 ?side2 A10.out).mono ?_); (case side1 => repeat (first | exact (Kd.C_below HR0.out HB.out) | (with_reducible refine Kd.C_alloc ?_ _) | (with_reducible refine Kd.C_drewN ?_ _) | (with_reducible refine Kd.C_drew ?_))); (case side2 => exact HC0.out); rintro e w' ⟨rfl, ⟨nd, rfl⟩⟩; refine ⟨_, rfl, ?_⟩; (try (rw [drewN_self wc]; generalize hq_ : World.drewN wc _ = wc; have n0_ : Azz (wc.heap[gb401]? = some (.cells #[.int .i64 0, .int .i64 0, .int .i64 0, .int .u32 0, .int .i64 0] 24 (0, 0))) := ⟨by rw [← hq_]; exact (by (with_reducible repeat (first | refine kdN ?_ _ | refine kd1 ?_ | refine kal ?_ _)); exact BK401.out)⟩; have n1_ : Azz (Below w.heap.size w wc) := ⟨by rw [← hq_]; exact (by repeat (first | (with_reducible first | exact HB.out | apply bal | apply pbN | apply bd1 | refine bst ?_ GE401.out) | exact HB.out))⟩; clear BK401 HB hq_; have BK401 := n0_; have HB := n1_; clear n0_ n1_))))
            have n0_ := Azz.mk (kd1 BK401.out)
            have n1_ := Azz.mk (bd1 HB.out)
            clear BK401
            clear HB
            have BK401 := n0_
            have HB := n1_
            clear n0_ n1_
            have p405 : 0 ≤ (2 : Int) := (by omega)
            have q405 : 2 < (l0.length : Int) := of_decide_eq_true (by first | (with_reducible assumption) | assumption)
            obtain ⟨ad405, e405, hx405_0⟩ := Kd.at_int HR0.out 2 p405 q405
            have hw405_0 := hx405_0
            (try rw [show ((2 : Int)).toNat = 2 from rfl] at hw405_0)
            (try rw [show 2 * 1 = 2 from rfl] at hw405_0)
            (try simp only [Nat.reduceMul, Nat.reduceEqDiff, Go.Addr.add, ↓reduceIte] at hw405_0)
            cases e405
            (try simp only [show (2 : Int).toNat = 2 from rfl, Nat.reduceMul, Nat.reduceEqDiff, Go.Addr.add, ↓reduceIte] at hx405_0)
            have qi405 : (2 < l0.length) = True := eq_true (by omega)
            (try rw [show ((2 : Int)).toNat = 2 from rfl] at hx405_0)
            replace hx405_0 := (HB.out.cell (World.block_lt_of_cell? w _ hx405_0)).trans hx405_0
            replace p405 := eq_true p405
            replace q405 := eq_true q405
            have p406 : 0 ≤ (3 : Int) := (by omega)
            have q406 : 3 < (l0.length : Int) := of_decide_eq_true (by first | (with_reducible assumption) | assumption)
            obtain ⟨ad406, e406, hx406_0⟩ := Kd.at_int HR0.out 3 p406 q406
            have hw406_0 := hx406_0
            (try rw [show ((3 : Int)).toNat = 3 from rfl] at hw406_0)
            (try rw [show 3 * 1 = 3 from rfl] at hw406_0)
            (try simp only [Nat.reduceMul, Nat.reduceEqDiff, Go.Addr.add, ↓reduceIte] at hw406_0)
            obtain rfl : ad405 = ad406 := (by injection e406)
            (try simp only [show (3 : Int).toNat = 3 from rfl, Nat.reduceMul, Nat.reduceEqDiff, Go.Addr.add, ↓reduceIte] at hx406_0)
            have qi406 : (3 < l0.length) = True := eq_true (by omega)
            (try rw [show ((3 : Int)).toNat = 3 from rfl] at hx406_0)
            replace hx406_0 := (HB.out.cell (World.block_lt_of_cell? w _ hx406_0)).trans hx406_0
            replace p406 := eq_true p406
            replace q406 := eq_true q406
            have q45 : (12 : Int) ≤ ((l0.length : Int) : Int) := of_decide_eq_true (by first | (with_reducible assumption) | assumption)
            obtain ⟨i045, hi045, _, hsz45, _⟩ := info_parts info5
            have hroom45 : l0.length ≤ c0 := HC0.out
            have hC45 : Kd.C (Kd.int .u8) _ (some ad405) l0.length l0 := HR0.out
            have ql45 : (4 : Int) ≤ (12 : Int) := (by omega)
            have hcut45 := cut_mid (P := Try.prog) 26 5 .i64 .i64 Try.underlying26 hi045 1 hsz45 (some ad405) l0.length c0 4 12 (by omega) ql45 q45 hroom45
            have hr45 := Kd.C_mid (lo := (4 : Int).toNat) (hi := (12 : Int).toNat) (c := c0) hC45 (by omega) (by omega) hroom45
            obtain ⟨A45, hA45⟩ : ∃ A1, A1 = (if c0 = (4 : Int).toNat then (some ad405) else ((some ad405) : Option Addr).map (·.add ((4 : Int).toNat * 1))) := ⟨_, rfl⟩
            obtain ⟨c45, hc45⟩ : ∃ c1, c1 = c0 - (4 : Int).toNat := ⟨_, rfl⟩
            have hy45 : y407.length = (12 : Int).toNat - (4 : Int).toNat := (by rw [Ny407.out, List.length_drop, List.length_take] <;> omega)
            rw [show ((l0).take (12 : Int).toNat).drop (4 : Int).toNat = y407 from Ny407.out.symm] at hr45
            replace hr45 : Kd.C (Kd.int .u8) _ A45 y407.length y407 := (by rw [hA45]; exact hr45)
            rw [← hy45, ← hA45, ← hc45] at hcut45
            have HR410 := Azz.mk hr45
            have HC410 := Azz.mk (show y407.length ≤ c45 from by rw [hy45, hc45]; exact Nat.sub_le_sub_right (Nat.le_trans (by omega) hroom45) _)
            clear hr45 hC45 hroom45 hi045 hsz45 hc45
            have KY45 := Azz.mk hy45
            have KA45 := Azz.mk hA45
            clear hy45 hA45
            replace q45 := eq_true q45
            have q46 : (16 : Int) ≤ ((l0.length : Int) : Int) := of_decide_eq_true (by first | (with_reducible assumption) | assumption)
            obtain ⟨i046, hi046, _, hsz46, _⟩ := info_parts info5
            have hroom46 : l0.length ≤ c0 := HC0.out
            have hC46 : Kd.C (Kd.int .u8) _ (some ad405) l0.length l0 := HR0.out
            have ql46 : (12 : Int) ≤ (16 : Int) := (by omega)
            have hcut46 := cut_mid (P := Try.prog) 26 5 .i64 .i64 Try.underlying26 hi046 1 hsz46 (some ad405) l0.length c0 12 16 (by omega) ql46 q46 hroom46
            have hr46 := Kd.C_mid (lo := (12 : Int).toNat) (hi := (16 : Int).toNat) (c := c0) hC46 (by omega) (by omega) hroom46
            obtain ⟨A46, hA46⟩ : ∃ A1, A1 = (if c0 = (12 : Int).toNat then (some ad405) else ((some ad405) : Option Addr).map (·.add ((12 : Int).toNat * 1))) := ⟨_, rfl⟩
            obtain ⟨c46, hc46⟩ : ∃ c1, c1 = c0 - (12 : Int).toNat := ⟨_, rfl⟩
            have hy46 : y412.length = (16 : Int).toNat - (12 : Int).toNat := (by rw [Ny412.out, List.length_drop, List.length_take] <;> omega)
            rw [show ((l0).take (16 : Int).toNat).drop (12 : Int).toNat = y412 from Ny412.out.symm] at hr46
            replace hr46 : Kd.C (Kd.int .u8) _ A46 y412.length y412 := (by rw [hA46]; exact hr46)
            rw [← hy46, ← hA46, ← hc46] at hcut46
            have HR415 := Azz.mk hr46
            have HC415 := Azz.mk (show y412.length ≤ c46 from by rw [hy46, hc46]; exact Nat.sub_le_sub_right (Nat.le_trans (by omega) hroom46) _)
            clear hr46 hC46 hroom46 hi046 hsz46 hc46
            have KY46 := Azz.mk hy46
            have KA46 := Azz.mk hA46
            clear hy46 hA46
            replace q46 := eq_true q46
            have q47 : (24 : Int) ≤ ((l0.length : Int) : Int) := of_decide_eq_true (by first | (with_reducible assumption) | assumption)
            obtain ⟨i047, hi047, _, hsz47, _⟩ := info_parts info5
            have hroom47 : l0.length ≤ c0 := HC0.out
            have hC47 : Kd.C (Kd.int .u8) _ (some ad405) l0.length l0 := HR0.out
            have ql47 : (16 : Int) ≤ (24 : Int) := (by omega)
            have hcut47 := cut_mid (P := Try.prog) 26 5 .i64 .i64 Try.underlying26 hi047 1 hsz47 (some ad405) l0.length c0 16 24 (by omega) ql47 q47 hroom47
            have hr47 := Kd.C_mid (lo := (16 : Int).toNat) (hi := (24 : Int).toNat) (c := c0) hC47 (by omega) (by omega) hroom47
            obtain ⟨A47, hA47⟩ : ∃ A1, A1 = (if c0 = (16 : Int).toNat then (some ad405) else ((some ad405) : Option Addr).map (·.add ((16 : Int).toNat * 1))) := ⟨_, rfl⟩
            obtain ⟨c47, hc47⟩ : ∃ c1, c1 = c0 - (16 : Int).toNat := ⟨_, rfl⟩
            have hy47 : y417.length = (24 : Int).toNat - (16 : Int).toNat := (by rw [Ny417.out, List.length_drop, List.length_take] <;> omega)
            rw [show ((l0).take (24 : Int).toNat).drop (16 : Int).toNat = y417 from Ny417.out.symm] at hr47
            replace hr47 : Kd.C (Kd.int .u8) _ A47 y417.length y417 := (by rw [hA47]; exact hr47)
            rw [← hy47, ← hA47, ← hc47] at hcut47
            have HR420 := Azz.mk hr47
            have HC420 := Azz.mk (show y417.length ≤ c47 from by rw [hy47, hc47]; exact Nat.sub_le_sub_right (Nat.le_trans (by omega) hroom47) _)
            clear hr47 hC47 hroom47 hi047 hsz47 hc47
            have KY47 := Azz.mk hy47
            have KA47 := Azz.mk hA47
            clear hy47 hA47
            replace q47 := eq_true q47
            refine start_ (n := 23) (S := fun w' => w'.cell? ⟨ad405.block, ad405.off + 2, none⟩ = some (.int .u8 (rd l0 2)) ∧ w'.cell? ⟨ad405.block, ad405.off + 3, none⟩ = some (.int .u8 (rd l0 3))) (ds := []) #[false, false, false, false, false, false, false, false, false, false, false, false, false, false, false, false, false, false, false, false, false, false, false] (by kernel_rfl) rfl rfl ⟨((HB.out.cell (World.block_lt_of_cell? w _ hw405_0)).trans hw405_0), ((HB.out.cell (World.block_lt_of_cell? w _ hw406_0)).trans hw406_0)⟩ (fun hHeld => ?_); refine with_tabW rf_ReadControl.tab5 rf_ReadControl.bits5 (fun HT_ HW_ => ?_)
            generalize wc.drew = w44 at BK401 HB HR410 HR415 HR420 hx405_0 hx406_0 hHeld ⊢
            refine pure_ (i := 0) (N := some 25) (v := ?_) (a' := ?_) #[true, false, false, false, false, false, false, false, false, false, false, false, false, false, false, false, false, false, false, false, false, false, false] rfl rfl (any_of HT_.out (by kernel_rfl)) (fun _ _ _ h => h) (Or.inl ⟨by rfl, ?_⟩) ?_ ?_
            rotate_left
            ·intro w'
             go_simp
             with_reducible rfl
            rotate_left
            ·simp only [Act.put, List.setIfInBounds_toArray, List.set_cons_zero, List.set_cons_succ, i64_w, i32_w]
             rfl
            refine pure_ (i := 1) (N := some 26) (v := ?_) (a' := ?_) #[true, true, false, false, false, false, false, false, false, false, false, false, false, false, false, false, false, false, false, false, false, false, false] rfl rfl (any_of HT_.out (by kernel_rfl)) (fun _ _ _ h => h) (Or.inl ⟨by rfl, ?_⟩) ?_ ?_
            rotate_left
            ·intro w'
             go_simp
             with_reducible rfl
            rotate_left
            ·simp only [Act.put, List.setIfInBounds_toArray, List.set_cons_zero, List.set_cons_succ, i64_w, i32_w]
             rfl
            refine pure_ (i := 4) (N := some 29) (v := ?_) (a' := ?_) #[true, true, false, false, true, false, false, false, false, false, false, false, false, false, false, false, false, false, false, false, false, false, false] rfl rfl (any_of HT_.out (by kernel_rfl)) (fun _ _ _ h => h) (Or.inl ⟨by rfl, ?_⟩) ?_ ?_
            rotate_left
            ·intro w'
             go_simp
             with_reducible rfl
            rotate_left
            ·simp only [Act.put, List.setIfInBounds_toArray, List.set_cons_zero, List.set_cons_succ, i64_w, i32_w]
             rfl
            refine pure_ (i := 5) (N := some 30) (v := ?_) (a' := ?_) #[true, true, false, false, true, true, false, false, false, false, false, false, false, false, false, false, false, false, false, false, false, false, false] rfl rfl (any_of HT_.out (by kernel_rfl)) (fun _ _ _ h => h) (Or.inl ⟨by rfl, ?_⟩) ?_ ?_
            rotate_left
            ·intro w'
             go_simp
             with_reducible rfl
            rotate_left
            ·simp only [Act.put, List.setIfInBounds_toArray, List.set_cons_zero, List.set_cons_succ, i64_w, i32_w]
             rfl
            refine pure_ (i := 8) (N := some 33) (v := ?_) (a' := ?_) #[true, true, false, false, true, true, false, false, true, false, false, false, false, false, false, false, false, false, false, false, false, false, false] rfl rfl (any_of HT_.out (by kernel_rfl)) (fun _ _ _ h => h) (Or.inl ⟨by rfl, ?_⟩) ?_ ?_
            rotate_left
            ·intro w'
             go_simp
             with_reducible rfl
            rotate_left
            ·simp only [Act.put, List.setIfInBounds_toArray, List.set_cons_zero, List.set_cons_succ, i64_w, i32_w]
             rfl
            refine pure_ (i := 9) (N := some 34) (v := ?_) (a' := ?_) #[true, true, false, false, true, true, false, false, true, true, false, false, false, false, false, false, false, false, false, false, false, false, false] rfl rfl (any_of HT_.out (by kernel_rfl)) (fun _ _ _ h => h) (Or.inl ⟨by rfl, ?_⟩) ?_ ?_
            rotate_left
            ·intro w'
             go_simp
             with_reducible rfl
            rotate_left
            ·simp only [Act.put, List.setIfInBounds_toArray, List.set_cons_zero, List.set_cons_succ, i64_w, i32_w]
             rfl
            refine pure_ (i := 12) (N := some 37) (v := ?_) (a' := ?_) #[true, true, false, false, true, true, false, false, true, true, false, false, true, false, false, false, false, false, false, false, false, false, false] rfl rfl (any_of HT_.out (by kernel_rfl)) (fun _ _ _ h => h) (Or.inl ⟨by rfl, ?_⟩) ?_ ?_
            rotate_left
            ·intro w'
             go_simp
             with_reducible rfl
            rotate_left
            ·simp only [Act.put, List.setIfInBounds_toArray, List.set_cons_zero, List.set_cons_succ, i64_w, i32_w]
             rfl
            refine pure_ (i := 13) (N := some 38) (v := ?_) (a' := ?_) #[true, true, false, false, true, true, false, false, true, true, false, false, true, true, false, false, false, false, false, false, false, false, false] rfl rfl (any_of HT_.out (by kernel_rfl)) (fun _ _ _ h => h) (Or.inl ⟨by rfl, ?_⟩) ?_ ?_
            rotate_left
            ·intro w'
             go_simp
             with_reducible rfl
            rotate_left
            ·simp only [Act.put, List.setIfInBounds_toArray, List.set_cons_zero, List.set_cons_succ, i64_w, i32_w]
             rfl
            refine pure_ (i := 16) (N := some 41) (v := ?_) (a' := ?_) #[true, true, false, false, true, true, false, false, true, true, false, false, true, true, false, false, true, false, false, false, false, false, false] rfl rfl (any_of HT_.out (by kernel_rfl)) (fun _ _ _ h => h) (Or.inl ⟨by rfl, ?_⟩) ?_ ?_
            rotate_left
            ·intro w'
             go_simp
             with_reducible rfl
            rotate_left
            ·simp only [Act.put, List.setIfInBounds_toArray, List.set_cons_zero, List.set_cons_succ, i64_w, i32_w]
             rfl
            refine pure_ (i := 17) (N := some 42) (v := ?_) (a' := ?_) #[true, true, false, false, true, true, false, false, true, true, false, false, true, true, false, false, true, true, false, false, false, false, false] rfl rfl (any_of HT_.out (by kernel_rfl)) (fun _ _ _ h => h) (Or.inl ⟨by rfl, ?_⟩) ?_ ?_
            rotate_left
            ·intro w'
             go_simp
             with_reducible rfl
            rotate_left
            ·simp only [Act.put, List.setIfInBounds_toArray, List.set_cons_zero, List.set_cons_succ, i64_w, i32_w]
             rfl
            refine take_ (i := 2) (N := some 27) (v := ?_) (a' := ?_) #[true, true, true, false, true, true, false, false, true, true, false, false, true, true, false, false, true, true, false, false, false, false, false] rfl rfl (take_ofW HT_.out HW_.out (by kernel_rfl)) (fun _ _ _ h => h) (Or.inl ⟨by rfl, ?_⟩) hHeld ?_ ?_
            rotate_left
            ·rintro w' ⟨s0, s1⟩
             go_simp
             with_reducible rfl
            rotate_left
            ·simp only [Act.put, List.setIfInBounds_toArray, List.set_cons_zero, List.set_cons_succ, i64_w, i32_w]
             rfl
            refine pure_ (i := 3) (N := some 28) (v := ?_) (a' := ?_) #[true, true, true, true, true, true, false, false, true, true, false, false, true, true, false, false, true, true, false, false, false, false, false] rfl rfl (any_of HT_.out (by kernel_rfl)) (fun _ _ _ h => h) (Or.inl ⟨by rfl, ?_⟩) ?_ ?_
            rotate_left
            ·intro w'
             go_simp
             with_reducible rfl
            rotate_left
            ·simp only [Act.put, List.setIfInBounds_toArray, List.set_cons_zero, List.set_cons_succ, i64_w, i32_w]
             rfl
            refine take_ (i := 6) (N := some 31) (v := ?_) (a' := ?_) #[true, true, true, true, true, true, true, false, true, true, false, false, true, true, false, false, true, true, false, false, false, false, false] rfl rfl (take_ofW HT_.out HW_.out (by kernel_rfl)) (fun _ _ _ h => h) (Or.inl ⟨by rfl, ?_⟩) hHeld ?_ ?_
            rotate_left
            ·rintro w' ⟨s0, s1⟩
             go_simp
             with_reducible rfl
            rotate_left
            ·simp only [Act.put, List.setIfInBounds_toArray, List.set_cons_zero, List.set_cons_succ, i64_w, i32_w]
             rfl
            refine pure_ (i := 7) (N := some 32) (v := ?_) (a' := ?_) #[true, true, true, true, true, true, true, true, true, true, false, false, true, true, false, false, true, true, false, false, false, false, false] rfl rfl (any_of HT_.out (by kernel_rfl)) (fun _ _ _ h => h) (Or.inl ⟨by rfl, ?_⟩) ?_ ?_
            rotate_left
            ·intro w'
             go_simp
             with_reducible rfl
            rotate_left
            ·simp only [Act.put, List.setIfInBounds_toArray, List.set_cons_zero, List.set_cons_succ, i64_w, i32_w]
             rfl
            refine join_ (σ := Nat) 1 #[true, true, true, true, true, true, true, true, true, true, true, true, true, true, true, true, true, true, true, true, true, true, false] (fun s_ => [(35, .int .u64 t411), (39, .int .u64 t416), (43, .int .u64 t421), (4, .pointer (some ⟨s_, 0, none⟩)), (36, .int .i64 (wrap64 (t411))), (40, .int .u32 ((t416) % 4294967296)), (44, .int .i64 (wrap64 (t421))), (45, .agg #[.int .i64 (wrap64 (rd l0 2)), .int .i64 (wrap64 (rd l0 3)), .int .i64 (wrap64 (t411)), .int .u32 ((t416) % 4294967296), .int .i64 (wrap64 (t421))])]) (fun s_ w' => (w'.cell? ⟨ad405.block, ad405.off + 2, none⟩ = some (.int .u8 (rd l0 2)) ∧ w'.cell? ⟨ad405.block, ad405.off + 3, none⟩ = some (.int .u8 (rd l0 3))) ∧ (w'.heap[gb401]? = some (.cells #[.int .i64 0, .int .i64 0, .int .i64 0, .int .u32 0, .int .i64 0] 24 (0, 0))) ∧ (w'.heap[s_]? = some (.cells #[.int .i64 0, .int .i64 0, .int .i64 0, .int .u32 0, .int .i64 0] 24 (0, 0))) ∧ (w.heap.size ≤ s_) ∧ (w.heap.size ≤ s_) ∧ (gb401 ≠ s_) ∧ (s_ ≠ gb401) ∧ (Below w.heap.size w w')) ?_ ?_
            rotate_left
            ·intro hCont
             refine two_ (i := 10) (j := 21) (Ni := some 35) (Nj := some 4) #[true, true, true, true, true, true, true, true, true, true, true, false, true, true, false, false, true, true, false, false, false, false, false] #[true, true, true, true, true, true, true, true, true, true, false, false, true, true, false, false, true, true, false, false, false, true, false] rfl rfl rfl rfl (two_of HT_.out (by kernel_rfl)) (by decide) (by decide) (fun K hK => ?_) (fun K hK => ?_)
             ·skip
              refine goes_ Try.func36 (by kernel_rfl) rfl #[.slice A45 y407.length c45] (by rfl) rfl rfl (by (try simp only [List.map_toArray, List.map_cons, List.map_nil]); first | done | rfl | (simp only [List.length_drop, List.length_take]; rfl)) ?_
              with_reducible refine (rf_value.calls kj1 _ _ y407 t411 _ ?side1 ?side2 A15.out).mono ?_
              (case side1 => repeat (first | exact (Kd.C_below HR410.out HB.out) | (with_reducible refine Kd.C_alloc ?_ _) | (with_reducible refine Kd.C_drewN ?_ _) | (with_reducible refine Kd.C_drew ?_)))
              (case side2 => exact HC410.out)
              rintro e w' ⟨rfl, ⟨nd, rfl⟩⟩
              refine ⟨_, rfl, ?_⟩
              refine hK.out _ _ ⟨((HB.out.cell (World.block_lt_of_cell? w _ hw405_0)).trans hw405_0), ((HB.out.cell (World.block_lt_of_cell? w _ hw406_0)).trans hw406_0)⟩ (fun hHeld => ?_)
              clear hK K
              refine norm_ (a' := ?_) ?_ ?_
              rotate_left
              ·show Act.put _ (some 35) _ = _
               simp only [Act.put, List.setIfInBounds_toArray, List.set_cons_zero, List.set_cons_succ, i64_w, i32_w]
               rfl
              refine pure_ (i := 11) (N := some 36) (v := ?_) (a' := ?_) #[true, true, true, true, true, true, true, true, true, true, true, true, true, true, false, false, true, true, false, false, false, false, false] rfl rfl (any_of HT_.out (by kernel_rfl)) (fun _ _ _ h => h) (Or.inl ⟨by rfl, ?_⟩) ?_ ?_
              rotate_left
              ·intro w'
               go_simp
               with_reducible rfl
              rotate_left
              ·simp only [Act.put, List.setIfInBounds_toArray, List.set_cons_zero, List.set_cons_succ, i64_w, i32_w]
               rfl
              refine two_ (i := 14) (j := 21) (Ni := some 39) (Nj := some 4) #[true, true, true, true, true, true, true, true, true, true, true, true, true, true, true, false, true, true, false, false, false, false, false] #[true, true, true, true, true, true, true, true, true, true, true, true, true, true, false, false, true, true, false, false, false, true, false] rfl rfl rfl rfl (two_of HT_.out (by kernel_rfl)) (by decide) (by decide) (fun K hK => ?_) (fun K hK => ?_)
              ·skip
               refine goes_ Try.func36 (by kernel_rfl) rfl #[.slice A46 y412.length c46] (by rfl) rfl rfl (by (try simp only [List.map_toArray, List.map_cons, List.map_nil]); first | done | rfl | (simp only [List.length_drop, List.length_take]; rfl)) ?_
               with_reducible refine (rf_value.calls kj1 _ _ y412 t416 _ ?side1 ?side2 A17.out).mono ?_
               (case side1 => repeat (first | exact (Kd.C_below HR415.out (by repeat (first | (with_reducible first | exact HB.out | apply bal | apply pbN | apply bd1 | refine bst ?_ GE401.out) | exact HB.out))) | (with_reducible refine Kd.C_alloc ?_ _) | (with_reducible refine Kd.C_drewN ?_ _) | (with_reducible refine Kd.C_drew ?_)))
               (case side2 => exact HC415.out)
               rintro e w' ⟨rfl, ⟨nd, rfl⟩⟩
               refine ⟨_, rfl, ?_⟩
               refine hK.out _ _ ⟨((HB.out.cell (World.block_lt_of_cell? w _ hw405_0)).trans hw405_0), ((HB.out.cell (World.block_lt_of_cell? w _ hw406_0)).trans hw406_0)⟩ (fun hHeld => ?_)
               clear hK K
               refine norm_ (a' := ?_) ?_ ?_
               rotate_left
               ·show Act.put _ (some 39) _ = _
                simp only [Act.put, List.setIfInBounds_toArray, List.set_cons_zero, List.set_cons_succ, i64_w, i32_w]
                rfl
               refine pure_ (i := 15) (N := some 40) (v := ?_) (a' := ?_) #[true, true, true, true, true, true, true, true, true, true, true, true, true, true, true, true, true, true, false, false, false, false, false] rfl rfl (any_of HT_.out (by kernel_rfl)) (fun _ _ _ h => h) (Or.inl ⟨by rfl, ?_⟩) ?_ ?_
               rotate_left
               ·intro w'
                go_simp
                with_reducible rfl
               rotate_left
               ·simp only [Act.put, List.setIfInBounds_toArray, List.set_cons_zero, List.set_cons_succ, i64_w, i32_w]
                rfl
               refine two_ (i := 18) (j := 21) (Ni := some 43) (Nj := some 4) #[true, true, true, true, true, true, true, true, true, true, true, true, true, true, true, true, true, true, true, false, false, false, false] #[true, true, true, true, true, true, true, true, true, true, true, true, true, true, true, true, true, true, false, false, false, true, false] rfl rfl rfl rfl (two_of HT_.out (by kernel_rfl)) (by decide) (by decide) (fun K hK => ?_) (fun K hK => ?_)
               ·skip
                refine goes_ Try.func36 (by kernel_rfl) rfl #[.slice A47 y417.length c47] (by rfl) rfl rfl (by (try simp only [List.map_toArray, List.map_cons, List.map_nil]); first | done | rfl | (simp only [List.length_drop, List.length_take]; rfl)) ?_
                with_reducible refine (rf_value.calls kj1 _ _ y417 t421 _ ?side1 ?side2 A19.out).mono ?_
                (case side1 => repeat (first | exact (Kd.C_below HR420.out (by repeat (first | (with_reducible first | exact HB.out | apply bal | apply pbN | apply bd1 | refine bst ?_ GE401.out) | exact HB.out))) | (with_reducible refine Kd.C_alloc ?_ _) | (with_reducible refine Kd.C_drewN ?_ _) | (with_reducible refine Kd.C_drew ?_)))
                (case side2 => exact HC420.out)
                rintro e w' ⟨rfl, ⟨nd, rfl⟩⟩
                refine ⟨_, rfl, ?_⟩
                refine hK.out _ _ ⟨((HB.out.cell (World.block_lt_of_cell? w _ hw405_0)).trans hw405_0), ((HB.out.cell (World.block_lt_of_cell? w _ hw406_0)).trans hw406_0)⟩ (fun hHeld => ?_)
                clear hK K
                refine norm_ (a' := ?_) ?_ ?_
                rotate_left
                ·show Act.put _ (some 43) _ = _
                 simp only [Act.put, List.setIfInBounds_toArray, List.set_cons_zero, List.set_cons_succ, i64_w, i32_w]
                 rfl
                refine pure_ (i := 19) (N := some 44) (v := ?_) (a' := ?_) #[true, true, true, true, true, true, true, true, true, true, true, true, true, true, true, true, true, true, true, true, false, false, false] rfl rfl (any_of HT_.out (by kernel_rfl)) (fun _ _ _ h => h) (Or.inl ⟨by rfl, ?_⟩) ?_ ?_
                rotate_left
                ·intro w'
                 go_simp
                 with_reducible rfl
                rotate_left
                ·simp only [Act.put, List.setIfInBounds_toArray, List.set_cons_zero, List.set_cons_succ, i64_w, i32_w]
                 rfl
                refine pure_ (i := 20) (N := some 45) (v := ?_) (a' := ?_) #[true, true, true, true, true, true, true, true, true, true, true, true, true, true, true, true, true, true, true, true, true, false, false] rfl rfl (any_of HT_.out (by kernel_rfl)) (fun _ _ _ h => h) (Or.inl ⟨by rfl, ?_⟩) ?_ ?_
                rotate_left
                ·intro w'
                 go_simp
                 with_reducible rfl
                rotate_left
                ·simp only [Act.put, List.setIfInBounds_toArray, List.set_cons_zero, List.set_cons_succ, i64_w, i32_w]
                 rfl
                refine one_ (i := 21) (N := some 4) #[true, true, true, true, true, true, true, true, true, true, true, true, true, true, true, true, true, true, true, true, true, true, false] rfl rfl (one_of HT_.out (by kernel_rfl)) (by decide) (fun K hK => ?_)
                refine box_step ?hg (N := 4) ?hd (cs := #[.int .i64 0, .int .i64 0, .int .i64 0, .int .u32 0, .int .i64 0]) (t := 24) ?hr ?_; (case hd => rfl); (case hg => rfl); (case hr => first | (go_simp; done) | (go_simp; rfl))
                intro gb422 hg w48 hbox hb
                have n0_ := Azz.mk (blk_below (g := gb401) (o := .cells #[.int .i64 0, .int .i64 0, .int .i64 0, .int .u32 0, .int .i64 0] 24 (0, 0)) (by (with_reducible repeat (first | refine kdN ?_ _ | refine kd1 ?_ | refine kal ?_ _)); exact BK401.out) hb)
                have n1_ := Azz.mk (below_step (by repeat (first | (with_reducible first | exact HB.out | apply bal | apply pbN | apply bd1 | refine bst ?_ GE401.out) | exact HB.out)) hb)
                have n2_ := Azz.mk (hbox)
                have n3_ := Azz.mk ((by rw [hg]; exact (below_size (by repeat (first | (with_reducible first | exact HB.out | apply bal | apply pbN | apply bd1 | refine bst ?_ GE401.out) | exact HB.out))) : w.heap.size ≤ gb422))
                have n4_ := Azz.mk ((by rw [hg]; exact (below_size (by repeat (first | (with_reducible first | exact HB.out | apply bal | apply pbN | apply bd1 | refine bst ?_ GE401.out) | exact HB.out))) : w.heap.size ≤ gb422))
                have n5_ := Azz.mk ((by rw [hg]; exact Nat.ne_of_lt (blk_lt (g := gb401) (o := .cells #[.int .i64 0, .int .i64 0, .int .i64 0, .int .u32 0, .int .i64 0] 24 (0, 0)) (by (with_reducible repeat (first | refine kdN ?_ _ | refine kd1 ?_ | refine kal ?_ _)); exact BK401.out)) : gb401 ≠ gb422))
                have n6_ := Azz.mk ((by rw [hg]; exact Nat.ne_of_gt (blk_lt (g := gb401) (o := .cells #[.int .i64 0, .int .i64 0, .int .i64 0, .int .u32 0, .int .i64 0] 24 (0, 0)) (by (with_reducible repeat (first | refine kdN ?_ _ | refine kd1 ?_ | refine kal ?_ _)); exact BK401.out)) : gb422 ≠ gb401))
                clear BK401
                clear HB
                have BK401 := n0_
                have HB := n1_
                have BK422 := n2_
                have GW422 := n3_
                have GE422 := n4_
                have NB401_422 := n5_
                have NB422_401 := n6_
                clear n0_ n1_ n2_ n3_ n4_ n5_ n6_
                clear hb hbox hg
                refine hK.out _ _ ⟨((HB.out.cell (World.block_lt_of_cell? w _ hw405_0)).trans hw405_0), ((HB.out.cell (World.block_lt_of_cell? w _ hw406_0)).trans hw406_0)⟩ (fun hHeld => ?_)
                clear hK K
                refine norm_ (a' := ?_) ?_ ?_
                rotate_left
                ·show Act.put _ (some 4) _ = _
                 simp only [Act.put, List.setIfInBounds_toArray, List.set_cons_zero, List.set_cons_succ, i64_w, i32_w]
                 rfl
                exact norm_ (by first | (simp only [putAll, Act.put, List.setIfInBounds_toArray, List.set_cons_zero, List.set_cons_succ]; done) | (simp only [putAll, Act.put, List.setIfInBounds_toArray, List.set_cons_zero, List.set_cons_succ, IntKind.wrap_u32, IntKind.wrap_u8]; done)) (hCont (gb422) _ ⟨hHeld, (by (with_reducible repeat (first | refine kdN ?_ _ | refine kd1 ?_ | refine kal ?_ _)); exact BK401.out), (by (with_reducible repeat (first | refine kdN ?_ _ | refine kd1 ?_ | refine kal ?_ _)); exact BK422.out), GW422.out, GE422.out, NB401_422.out, NB422_401.out, (by repeat (first | (with_reducible first | exact HB.out | apply bal | apply pbN | apply bd1 | refine bst ?_ GE401.out | refine bst ?_ GE422.out) | exact HB.out))⟩)
               ·skip
                refine box_step ?hg (N := 4) ?hd (cs := #[.int .i64 0, .int .i64 0, .int .i64 0, .int .u32 0, .int .i64 0]) (t := 24) ?hr ?_; (case hd => rfl); (case hg => rfl); (case hr => first | (go_simp; done) | (go_simp; rfl))
                intro gb422 hg w48 hbox hb
                have n0_ := Azz.mk (blk_below (g := gb401) (o := .cells #[.int .i64 0, .int .i64 0, .int .i64 0, .int .u32 0, .int .i64 0] 24 (0, 0)) (by (with_reducible repeat (first | refine kdN ?_ _ | refine kd1 ?_ | refine kal ?_ _)); exact BK401.out) hb)
                have n1_ := Azz.mk (below_step (by repeat (first | (with_reducible first | exact HB.out | apply bal | apply pbN | apply bd1 | refine bst ?_ GE401.out) | exact HB.out)) hb)
                have n2_ := Azz.mk (hbox)
                have n3_ := Azz.mk ((by rw [hg]; exact (below_size (by repeat (first | (with_reducible first | exact HB.out | apply bal | apply pbN | apply bd1 | refine bst ?_ GE401.out) | exact HB.out))) : w.heap.size ≤ gb422))
                have n4_ := Azz.mk ((by rw [hg]; exact (below_size (by repeat (first | (with_reducible first | exact HB.out | apply bal | apply pbN | apply bd1 | refine bst ?_ GE401.out) | exact HB.out))) : w.heap.size ≤ gb422))
                have n5_ := Azz.mk ((by rw [hg]; exact Nat.ne_of_lt (blk_lt (g := gb401) (o := .cells #[.int .i64 0, .int .i64 0, .int .i64 0, .int .u32 0, .int .i64 0] 24 (0, 0)) (by (with_reducible repeat (first | refine kdN ?_ _ | refine kd1 ?_ | refine kal ?_ _)); exact BK401.out)) : gb401 ≠ gb422))
                have n6_ := Azz.mk ((by rw [hg]; exact Nat.ne_of_gt (blk_lt (g := gb401) (o := .cells #[.int .i64 0, .int .i64 0, .int .i64 0, .int .u32 0, .int .i64 0] 24 (0, 0)) (by (with_reducible repeat (first | refine kdN ?_ _ | refine kd1 ?_ | refine kal ?_ _)); exact BK401.out)) : gb422 ≠ gb401))
                clear BK401
                clear HB
                have BK401 := n0_
                have HB := n1_
                have BK422 := n2_
                have GW422 := n3_
                have GE422 := n4_
                have NB401_422 := n5_
                have NB422_401 := n6_
                clear n0_ n1_ n2_ n3_ n4_ n5_ n6_
                clear hb hbox hg
                refine hK.out _ _ ⟨((HB.out.cell (World.block_lt_of_cell? w _ hw405_0)).trans hw405_0), ((HB.out.cell (World.block_lt_of_cell? w _ hw406_0)).trans hw406_0)⟩ (fun hHeld => ?_)
                clear hK K
                refine norm_ (a' := ?_) ?_ ?_
                rotate_left
                ·show Act.put _ (some 4) _ = _
                 simp only [Act.put, List.setIfInBounds_toArray, List.set_cons_zero, List.set_cons_succ, i64_w, i32_w]
                 rfl
                refine one_ (i := 18) (N := some 43) #[true, true, true, true, true, true, true, true, true, true, true, true, true, true, true, true, true, true, true, false, false, true, false] rfl rfl (one_of HT_.out (by kernel_rfl)) (by decide) (fun K hK => ?_)
                refine goes_ Try.func36 (by kernel_rfl) rfl #[.slice A47 y417.length c47] (by rfl) rfl rfl (by (try simp only [List.map_toArray, List.map_cons, List.map_nil]); first | done | rfl | (simp only [List.length_drop, List.length_take]; rfl)) ?_
                with_reducible refine (rf_value.calls kj1 _ _ y417 t421 _ ?side1 ?side2 A19.out).mono ?_
                (case side1 => repeat (first | exact (Kd.C_below HR420.out HB.out) | (with_reducible refine Kd.C_alloc ?_ _) | (with_reducible refine Kd.C_drewN ?_ _) | (with_reducible refine Kd.C_drew ?_)))
                (case side2 => exact HC420.out)
                rintro e w' ⟨rfl, ⟨nd, rfl⟩⟩
                refine ⟨_, rfl, ?_⟩
                refine hK.out _ _ ⟨((HB.out.cell (World.block_lt_of_cell? w _ hw405_0)).trans hw405_0), ((HB.out.cell (World.block_lt_of_cell? w _ hw406_0)).trans hw406_0)⟩ (fun hHeld => ?_)
                clear hK K
                refine norm_ (a' := ?_) ?_ ?_
                rotate_left
                ·show Act.put _ (some 43) _ = _
                 simp only [Act.put, List.setIfInBounds_toArray, List.set_cons_zero, List.set_cons_succ, i64_w, i32_w]
                 rfl
                refine pure_ (i := 19) (N := some 44) (v := ?_) (a' := ?_) #[true, true, true, true, true, true, true, true, true, true, true, true, true, true, true, true, true, true, true, true, false, true, false] rfl rfl (any_of HT_.out (by kernel_rfl)) (fun _ _ _ h => h) (Or.inl ⟨by rfl, ?_⟩) ?_ ?_
                rotate_left
                ·intro w'
                 go_simp
                 with_reducible rfl
                rotate_left
                ·simp only [Act.put, List.setIfInBounds_toArray, List.set_cons_zero, List.set_cons_succ, i64_w, i32_w]
                 rfl
                refine pure_ (i := 20) (N := some 45) (v := ?_) (a' := ?_) #[true, true, true, true, true, true, true, true, true, true, true, true, true, true, true, true, true, true, true, true, true, true, false] rfl rfl (any_of HT_.out (by kernel_rfl)) (fun _ _ _ h => h) (Or.inl ⟨by rfl, ?_⟩) ?_ ?_
                rotate_left
                ·intro w'
                 go_simp
                 with_reducible rfl
                rotate_left
                ·simp only [Act.put, List.setIfInBounds_toArray, List.set_cons_zero, List.set_cons_succ, i64_w, i32_w]
                 rfl
                exact norm_ (by first | (simp only [putAll, Act.put, List.setIfInBounds_toArray, List.set_cons_zero, List.set_cons_succ]; done) | (simp only [putAll, Act.put, List.setIfInBounds_toArray, List.set_cons_zero, List.set_cons_succ, IntKind.wrap_u32, IntKind.wrap_u8]; done)) (hCont (gb422) _ ⟨hHeld, (by (with_reducible repeat (first | refine kdN ?_ _ | refine kd1 ?_ | refine kal ?_ _)); exact BK401.out), (by (with_reducible repeat (first | refine kdN ?_ _ | refine kd1 ?_ | refine kal ?_ _)); exact BK422.out), GW422.out, GE422.out, NB401_422.out, NB422_401.out, (by repeat (first | (with_reducible first | exact HB.out | apply bal | apply pbN | apply bd1 | refine bst ?_ GE401.out | refine bst ?_ GE422.out) | exact HB.out))⟩)
              ·skip
               refine box_step ?hg (N := 4) ?hd (cs := #[.int .i64 0, .int .i64 0, .int .i64 0, .int .u32 0, .int .i64 0]) (t := 24) ?hr ?_; (case hd => rfl); (case hg => rfl); (case hr => first | (go_simp; done) | (go_simp; rfl))
               intro gb422 hg w48 hbox hb
               have n0_ := Azz.mk (blk_below (g := gb401) (o := .cells #[.int .i64 0, .int .i64 0, .int .i64 0, .int .u32 0, .int .i64 0] 24 (0, 0)) (by (with_reducible repeat (first | refine kdN ?_ _ | refine kd1 ?_ | refine kal ?_ _)); exact BK401.out) hb)
               have n1_ := Azz.mk (below_step (by repeat (first | (with_reducible first | exact HB.out | apply bal | apply pbN | apply bd1 | refine bst ?_ GE401.out) | exact HB.out)) hb)
               have n2_ := Azz.mk (hbox)
               have n3_ := Azz.mk ((by rw [hg]; exact (below_size (by repeat (first | (with_reducible first | exact HB.out | apply bal | apply pbN | apply bd1 | refine bst ?_ GE401.out) | exact HB.out))) : w.heap.size ≤ gb422))
               have n4_ := Azz.mk ((by rw [hg]; exact (below_size (by repeat (first | (with_reducible first | exact HB.out | apply bal | apply pbN | apply bd1 | refine bst ?_ GE401.out) | exact HB.out))) : w.heap.size ≤ gb422))
               have n5_ := Azz.mk ((by rw [hg]; exact Nat.ne_of_lt (blk_lt (g := gb401) (o := .cells #[.int .i64 0, .int .i64 0, .int .i64 0, .int .u32 0, .int .i64 0] 24 (0, 0)) (by (with_reducible repeat (first | refine kdN ?_ _ | refine kd1 ?_ | refine kal ?_ _)); exact BK401.out)) : gb401 ≠ gb422))
               have n6_ := Azz.mk ((by rw [hg]; exact Nat.ne_of_gt (blk_lt (g := gb401) (o := .cells #[.int .i64 0, .int .i64 0, .int .i64 0, .int .u32 0, .int .i64 0] 24 (0, 0)) (by (with_reducible repeat (first | refine kdN ?_ _ | refine kd1 ?_ | refine kal ?_ _)); exact BK401.out)) : gb422 ≠ gb401))
               clear BK401
               clear HB
               have BK401 := n0_
               have HB := n1_
               have BK422 := n2_
               have GW422 := n3_
               have GE422 := n4_
               have NB401_422 := n5_
               have NB422_401 := n6_
               clear n0_ n1_ n2_ n3_ n4_ n5_ n6_
               clear hb hbox hg
               refine hK.out _ _ ⟨((HB.out.cell (World.block_lt_of_cell? w _ hw405_0)).trans hw405_0), ((HB.out.cell (World.block_lt_of_cell? w _ hw406_0)).trans hw406_0)⟩ (fun hHeld => ?_)
               clear hK K
               refine norm_ (a' := ?_) ?_ ?_
               rotate_left
               ·show Act.put _ (some 4) _ = _
                simp only [Act.put, List.setIfInBounds_toArray, List.set_cons_zero, List.set_cons_succ, i64_w, i32_w]
                rfl
               refine one_ (i := 14) (N := some 39) #[true, true, true, true, true, true, true, true, true, true, true, true, true, true, true, false, true, true, false, false, false, true, false] rfl rfl (one_of HT_.out (by kernel_rfl)) (by decide) (fun K hK => ?_)
               refine goes_ Try.func36 (by kernel_rfl) rfl #[.slice A46 y412.length c46] (by rfl) rfl rfl (by (try simp only [List.map_toArray, List.map_cons, List.map_nil]); first | done | rfl | (simp only [List.length_drop, List.length_take]; rfl)) ?_
               with_reducible refine (rf_value.calls kj1 _ _ y412 t416 _ ?side1 ?side2 A17.out).mono ?_
               (case side1 => repeat (first | exact (Kd.C_below HR415.out HB.out) | (with_reducible refine Kd.C_alloc ?_ _) | (with_reducible refine Kd.C_drewN ?_ _) | (with_reducible refine Kd.C_drew ?_)))
               (case side2 => exact HC415.out)
               rintro e w' ⟨rfl, ⟨nd, rfl⟩⟩
               refine ⟨_, rfl, ?_⟩
               refine hK.out _ _ ⟨((HB.out.cell (World.block_lt_of_cell? w _ hw405_0)).trans hw405_0), ((HB.out.cell (World.block_lt_of_cell? w _ hw406_0)).trans hw406_0)⟩ (fun hHeld => ?_)
               clear hK K
               refine norm_ (a' := ?_) ?_ ?_
               rotate_left
               ·show Act.put _ (some 39) _ = _
                simp only [Act.put, List.setIfInBounds_toArray, List.set_cons_zero, List.set_cons_succ, i64_w, i32_w]
                rfl
               refine pure_ (i := 15) (N := some 40) (v := ?_) (a' := ?_) #[true, true, true, true, true, true, true, true, true, true, true, true, true, true, true, true, true, true, false, false, false, true, false] rfl rfl (any_of HT_.out (by kernel_rfl)) (fun _ _ _ h => h) (Or.inl ⟨by rfl, ?_⟩) ?_ ?_
               rotate_left
               ·intro w'
                go_simp
                with_reducible rfl
               rotate_left
               ·simp only [Act.put, List.setIfInBounds_toArray, List.set_cons_zero, List.set_cons_succ, i64_w, i32_w]
                rfl
               refine one_ (i := 18) (N := some 43) #[true, true, true, true, true, true, true, true, true, true, true, true, true, true, true, true, true, true, true, false, false, true, false] rfl rfl (one_of HT_.out (by kernel_rfl)) (by decide) (fun K hK => ?_)
               refine goes_ Try.func36 (by kernel_rfl) rfl #[.slice A47 y417.length c47] (by rfl) rfl rfl (by (try simp only [List.map_toArray, List.map_cons, List.map_nil]); first | done | rfl | (simp only [List.length_drop, List.length_take]; rfl)) ?_
               with_reducible refine (rf_value.calls kj1 _ _ y417 t421 _ ?side1 ?side2 A19.out).mono ?_
               (case side1 => repeat (first | exact (Kd.C_below HR420.out (by repeat (first | (with_reducible first | exact HB.out | apply bal | apply pbN | apply bd1 | refine bst ?_ GE401.out | refine bst ?_ GE422.out) | exact HB.out))) | (with_reducible refine Kd.C_alloc ?_ _) | (with_reducible refine Kd.C_drewN ?_ _) | (with_reducible refine Kd.C_drew ?_)))
               (case side2 => exact HC420.out)
               rintro e w' ⟨rfl, ⟨nd, rfl⟩⟩
               refine ⟨_, rfl, ?_⟩
               refine hK.out _ _ ⟨((HB.out.cell (World.block_lt_of_cell? w _ hw405_0)).trans hw405_0), ((HB.out.cell (World.block_lt_of_cell? w _ hw406_0)).trans hw406_0)⟩ (fun hHeld => ?_)
               clear hK K
               refine norm_ (a' := ?_) ?_ ?_
               rotate_left
               ·show Act.put _ (some 43) _ = _
                simp only [Act.put, List.setIfInBounds_toArray, List.set_cons_zero, List.set_cons_succ, i64_w, i32_w]
                rfl
               refine pure_ (i := 19) (N := some 44) (v := ?_) (a' := ?_) #[true, true, true, true, true, true, true, true, true, true, true, true, true, true, true, true, true, true, true, true, false, true, false] rfl rfl (any_of HT_.out (by kernel_rfl)) (fun _ _ _ h => h) (Or.inl ⟨by rfl, ?_⟩) ?_ ?_
               rotate_left
               ·intro w'
                go_simp
                with_reducible rfl
               rotate_left
               ·simp only [Act.put, List.setIfInBounds_toArray, List.set_cons_zero, List.set_cons_succ, i64_w, i32_w]
                rfl
               refine pure_ (i := 20) (N := some 45) (v := ?_) (a' := ?_) #[true, true, true, true, true, true, true, true, true, true, true, true, true, true, true, true, true, true, true, true, true, true, false] rfl rfl (any_of HT_.out (by kernel_rfl)) (fun _ _ _ h => h) (Or.inl ⟨by rfl, ?_⟩) ?_ ?_
               rotate_left
               ·intro w'
                go_simp
                with_reducible rfl
               rotate_left
               ·simp only [Act.put, List.setIfInBounds_toArray, List.set_cons_zero, List.set_cons_succ, i64_w, i32_w]
                rfl
               exact norm_ (by first | (simp only [putAll, Act.put, List.setIfInBounds_toArray, List.set_cons_zero, List.set_cons_succ]; done) | (simp only [putAll, Act.put, List.setIfInBounds_toArray, List.set_cons_zero, List.set_cons_succ, IntKind.wrap_u32, IntKind.wrap_u8]; done)) (hCont (gb422) _ ⟨hHeld, (by (with_reducible repeat (first | refine kdN ?_ _ | refine kd1 ?_ | refine kal ?_ _)); exact BK401.out), (by (with_reducible repeat (first | refine kdN ?_ _ | refine kd1 ?_ | refine kal ?_ _)); exact BK422.out), GW422.out, GE422.out, NB401_422.out, NB422_401.out, (by repeat (first | (with_reducible first | exact HB.out | apply bal | apply pbN | apply bd1 | refine bst ?_ GE401.out | refine bst ?_ GE422.out) | exact HB.out))⟩)
             ·skip
              refine box_step ?hg (N := 4) ?hd (cs := #[.int .i64 0, .int .i64 0, .int .i64 0, .int .u32 0, .int .i64 0]) (t := 24) ?hr ?_; (case hd => rfl); (case hg => rfl); (case hr => first | (go_simp; done) | (go_simp; rfl))
              intro gb422 hg w48 hbox hb
              have n0_ := Azz.mk (blk_below (g := gb401) (o := .cells #[.int .i64 0, .int .i64 0, .int .i64 0, .int .u32 0, .int .i64 0] 24 (0, 0)) (by (with_reducible repeat (first | refine kdN ?_ _ | refine kd1 ?_ | refine kal ?_ _)); exact BK401.out) hb)
              have n1_ := Azz.mk (below_step (by repeat (first | (with_reducible first | exact HB.out | apply bal | apply pbN | apply bd1 | refine bst ?_ GE401.out) | exact HB.out)) hb)
              have n2_ := Azz.mk (hbox)
              have n3_ := Azz.mk ((by rw [hg]; exact (below_size (by repeat (first | (with_reducible first | exact HB.out | apply bal | apply pbN | apply bd1 | refine bst ?_ GE401.out) | exact HB.out))) : w.heap.size ≤ gb422))
              have n4_ := Azz.mk ((by rw [hg]; exact (below_size (by repeat (first | (with_reducible first | exact HB.out | apply bal | apply pbN | apply bd1 | refine bst ?_ GE401.out) | exact HB.out))) : w.heap.size ≤ gb422))
              have n5_ := Azz.mk ((by rw [hg]; exact Nat.ne_of_lt (blk_lt (g := gb401) (o := .cells #[.int .i64 0, .int .i64 0, .int .i64 0, .int .u32 0, .int .i64 0] 24 (0, 0)) (by (with_reducible repeat (first | refine kdN ?_ _ | refine kd1 ?_ | refine kal ?_ _)); exact BK401.out)) : gb401 ≠ gb422))
              have n6_ := Azz.mk ((by rw [hg]; exact Nat.ne_of_gt (blk_lt (g := gb401) (o := .cells #[.int .i64 0, .int .i64 0, .int .i64 0, .int .u32 0, .int .i64 0] 24 (0, 0)) (by (with_reducible repeat (first | refine kdN ?_ _ | refine kd1 ?_ | refine kal ?_ _)); exact BK401.out)) : gb422 ≠ gb401))
              clear BK401
              clear HB
              have BK401 := n0_
              have HB := n1_
              have BK422 := n2_
              have GW422 := n3_
              have GE422 := n4_
              have NB401_422 := n5_
              have NB422_401 := n6_
              clear n0_ n1_ n2_ n3_ n4_ n5_ n6_
              clear hb hbox hg
              refine hK.out _ _ ⟨((HB.out.cell (World.block_lt_of_cell? w _ hw405_0)).trans hw405_0), ((HB.out.cell (World.block_lt_of_cell? w _ hw406_0)).trans hw406_0)⟩ (fun hHeld => ?_)
              clear hK K
              refine norm_ (a' := ?_) ?_ ?_
              rotate_left
              ·show Act.put _ (some 4) _ = _
               simp only [Act.put, List.setIfInBounds_toArray, List.set_cons_zero, List.set_cons_succ, i64_w, i32_w]
               rfl
              refine one_ (i := 10) (N := some 35) #[true, true, true, true, true, true, true, true, true, true, true, false, true, true, false, false, true, true, false, false, false, true, false] rfl rfl (one_of HT_.out (by kernel_rfl)) (by decide) (fun K hK => ?_)
              refine goes_ Try.func36 (by kernel_rfl) rfl #[.slice A45 y407.length c45] (by rfl) rfl rfl (by (try simp only [List.map_toArray, List.map_cons, List.map_nil]); first | done | rfl | (simp only [List.length_drop, List.length_take]; rfl)) ?_
              with_reducible refine (rf_value.calls kj1 _ _ y407 t411 _ ?side1 ?side2 A15.out).mono ?_
              (case side1 => repeat (first | exact (Kd.C_below HR410.out HB.out) | (with_reducible refine Kd.C_alloc ?_ _) | (with_reducible refine Kd.C_drewN ?_ _) | (with_reducible refine Kd.C_drew ?_)))
              (case side2 => exact HC410.out)
              rintro e w' ⟨rfl, ⟨nd, rfl⟩⟩
              refine ⟨_, rfl, ?_⟩
              refine hK.out _ _ ⟨((HB.out.cell (World.block_lt_of_cell? w _ hw405_0)).trans hw405_0), ((HB.out.cell (World.block_lt_of_cell? w _ hw406_0)).trans hw406_0)⟩ (fun hHeld => ?_)
              clear hK K
              refine norm_ (a' := ?_) ?_ ?_
              rotate_left
              ·show Act.put _ (some 35) _ = _
               simp only [Act.put, List.setIfInBounds_toArray, List.set_cons_zero, List.set_cons_succ, i64_w, i32_w]
               rfl
              refine pure_ (i := 11) (N := some 36) (v := ?_) (a' := ?_) #[true, true, true, true, true, true, true, true, true, true, true, true, true, true, false, false, true, true, false, false, false, true, false] rfl rfl (any_of HT_.out (by kernel_rfl)) (fun _ _ _ h => h) (Or.inl ⟨by rfl, ?_⟩) ?_ ?_
              rotate_left
              ·intro w'
               go_simp
               with_reducible rfl
              rotate_left
              ·simp only [Act.put, List.setIfInBounds_toArray, List.set_cons_zero, List.set_cons_succ, i64_w, i32_w]
               rfl
              refine one_ (i := 14) (N := some 39) #[true, true, true, true, true, true, true, true, true, true, true, true, true, true, true, false, true, true, false, false, false, true, false] rfl rfl (one_of HT_.out (by kernel_rfl)) (by decide) (fun K hK => ?_)
              refine goes_ Try.func36 (by kernel_rfl) rfl #[.slice A46 y412.length c46] (by rfl) rfl rfl (by (try simp only [List.map_toArray, List.map_cons, List.map_nil]); first | done | rfl | (simp only [List.length_drop, List.length_take]; rfl)) ?_
              with_reducible refine (rf_value.calls kj1 _ _ y412 t416 _ ?side1 ?side2 A17.out).mono ?_
              (case side1 => repeat (first | exact (Kd.C_below HR415.out (by repeat (first | (with_reducible first | exact HB.out | apply bal | apply pbN | apply bd1 | refine bst ?_ GE401.out | refine bst ?_ GE422.out) | exact HB.out))) | (with_reducible refine Kd.C_alloc ?_ _) | (with_reducible refine Kd.C_drewN ?_ _) | (with_reducible refine Kd.C_drew ?_)))
              (case side2 => exact HC415.out)
              rintro e w' ⟨rfl, ⟨nd, rfl⟩⟩
              refine ⟨_, rfl, ?_⟩
              refine hK.out _ _ ⟨((HB.out.cell (World.block_lt_of_cell? w _ hw405_0)).trans hw405_0), ((HB.out.cell (World.block_lt_of_cell? w _ hw406_0)).trans hw406_0)⟩ (fun hHeld => ?_)
              clear hK K
              refine norm_ (a' := ?_) ?_ ?_
              rotate_left
              ·show Act.put _ (some 39) _ = _
               simp only [Act.put, List.setIfInBounds_toArray, List.set_cons_zero, List.set_cons_succ, i64_w, i32_w]
               rfl
              refine pure_ (i := 15) (N := some 40) (v := ?_) (a' := ?_) #[true, true, true, true, true, true, true, true, true, true, true, true, true, true, true, true, true, true, false, false, false, true, false] rfl rfl (any_of HT_.out (by kernel_rfl)) (fun _ _ _ h => h) (Or.inl ⟨by rfl, ?_⟩) ?_ ?_
              rotate_left
              ·intro w'
               go_simp
               with_reducible rfl
              rotate_left
              ·simp only [Act.put, List.setIfInBounds_toArray, List.set_cons_zero, List.set_cons_succ, i64_w, i32_w]
               rfl
              refine one_ (i := 18) (N := some 43) #[true, true, true, true, true, true, true, true, true, true, true, true, true, true, true, true, true, true, true, false, false, true, false] rfl rfl (one_of HT_.out (by kernel_rfl)) (by decide) (fun K hK => ?_)
              refine goes_ Try.func36 (by kernel_rfl) rfl #[.slice A47 y417.length c47] (by rfl) rfl rfl (by (try simp only [List.map_toArray, List.map_cons, List.map_nil]); first | done | rfl | (simp only [List.length_drop, List.length_take]; rfl)) ?_
              with_reducible refine (rf_value.calls kj1 _ _ y417 t421 _ ?side1 ?side2 A19.out).mono ?_
              (case side1 => repeat (first | exact (Kd.C_below HR420.out (by repeat (first | (with_reducible first | exact HB.out | apply bal | apply pbN | apply bd1 | refine bst ?_ GE401.out | refine bst ?_ GE422.out) | exact HB.out))) | (with_reducible refine Kd.C_alloc ?_ _) | (with_reducible refine Kd.C_drewN ?_ _) | (with_reducible refine Kd.C_drew ?_)))
              (case side2 => exact HC420.out)
              rintro e w' ⟨rfl, ⟨nd, rfl⟩⟩
              refine ⟨_, rfl, ?_⟩
              refine hK.out _ _ ⟨((HB.out.cell (World.block_lt_of_cell? w _ hw405_0)).trans hw405_0), ((HB.out.cell (World.block_lt_of_cell? w _ hw406_0)).trans hw406_0)⟩ (fun hHeld => ?_)
              clear hK K
              refine norm_ (a' := ?_) ?_ ?_
              rotate_left
              ·show Act.put _ (some 43) _ = _
               simp only [Act.put, List.setIfInBounds_toArray, List.set_cons_zero, List.set_cons_succ, i64_w, i32_w]
               rfl
              refine pure_ (i := 19) (N := some 44) (v := ?_) (a' := ?_) #[true, true, true, true, true, true, true, true, true, true, true, true, true, true, true, true, true, true, true, true, false, true, false] rfl rfl (any_of HT_.out (by kernel_rfl)) (fun _ _ _ h => h) (Or.inl ⟨by rfl, ?_⟩) ?_ ?_
              rotate_left
              ·intro w'
               go_simp
               with_reducible rfl
              rotate_left
              ·simp only [Act.put, List.setIfInBounds_toArray, List.set_cons_zero, List.set_cons_succ, i64_w, i32_w]
               rfl
              refine pure_ (i := 20) (N := some 45) (v := ?_) (a' := ?_) #[true, true, true, true, true, true, true, true, true, true, true, true, true, true, true, true, true, true, true, true, true, true, false] rfl rfl (any_of HT_.out (by kernel_rfl)) (fun _ _ _ h => h) (Or.inl ⟨by rfl, ?_⟩) ?_ ?_
              rotate_left
              ·intro w'
               go_simp
               with_reducible rfl
              rotate_left
              ·simp only [Act.put, List.setIfInBounds_toArray, List.set_cons_zero, List.set_cons_succ, i64_w, i32_w]
               rfl
              exact norm_ (by first | (simp only [putAll, Act.put, List.setIfInBounds_toArray, List.set_cons_zero, List.set_cons_succ]; done) | (simp only [putAll, Act.put, List.setIfInBounds_toArray, List.set_cons_zero, List.set_cons_succ, IntKind.wrap_u32, IntKind.wrap_u8]; done)) (hCont (gb422) _ ⟨hHeld, (by (with_reducible repeat (first | refine kdN ?_ _ | refine kd1 ?_ | refine kal ?_ _)); exact BK401.out), (by (with_reducible repeat (first | refine kdN ?_ _ | refine kd1 ?_ | refine kal ?_ _)); exact BK422.out), GW422.out, GE422.out, NB401_422.out, NB422_401.out, (by repeat (first | (with_reducible first | exact HB.out | apply bal | apply pbN | apply bd1 | refine bst ?_ GE401.out | refine bst ?_ GE422.out) | exact HB.out))⟩)
            rintro gb422 w49 ⟨hS_, h0_, h1_, h2_, h3_, h4_, h5_, h6_⟩
            have n0_ : Azz (w49.heap[gb401]? = some (.cells #[.int .i64 0, .int .i64 0, .int .i64 0, .int .u32 0, .int .i64 0] 24 (0, 0))) := ⟨h0_⟩
            have n1_ : Azz (w49.heap[gb422]? = some (.cells #[.int .i64 0, .int .i64 0, .int .i64 0, .int .u32 0, .int .i64 0] 24 (0, 0))) := ⟨h1_⟩
            have n2_ : Azz (w.heap.size ≤ gb422) := ⟨h2_⟩
            have n3_ : Azz (w.heap.size ≤ gb422) := ⟨h3_⟩
            have n4_ : Azz (gb401 ≠ gb422) := ⟨h4_⟩
            have n5_ : Azz (gb422 ≠ gb401) := ⟨h5_⟩
            have n6_ : Azz (Below w.heap.size w w49) := ⟨h6_⟩
            clear BK401
            clear HB
            clear h0_ h1_ h2_ h3_ h4_ h5_ h6_
            have BK401 := n0_
            have BK422 := n1_
            have GW422 := n2_
            have GE422 := n3_
            have NB401_422 := n4_
            have NB422_401 := n5_
            have HB := n6_
            clear n0_ n1_ n2_ n3_ n4_ n5_ n6_
            have hHeld : w49.cell? ⟨ad405.block, ad405.off + 2, none⟩ = some (.int .u8 (rd l0 2)) ∧ w49.cell? ⟨ad405.block, ad405.off + 3, none⟩ = some (.int .u8 (rd l0 3)) := hS_
            refine norm_ (a' := ?_) ?_ ?_
            rotate_left
            ·simp only [putAll, Act.put, List.setIfInBounds_toArray, List.set_cons_zero, List.set_cons_succ]
             rfl
            refine one_ (i := 22) (N := none) #[true, true, true, true, true, true, true, true, true, true, true, true, true, true, true, true, true, true, true, true, true, true, true] rfl rfl (one_of HT_.out (by kernel_rfl)) (by decide) (fun K hK => ?_)
            have hs50 : World.cell? _ ⟨gb422, 0, none⟩ = some (.int .i64 0) := (kcl BK422.out 0).trans rfl
            have hfs50 := kfz BK422.out 0
            have hns50_0 := NB401_422.out
            have hms50_0 := NB422_401.out
            have hs51 : World.cell? _ ⟨gb422, 1, none⟩ = some (.int .i64 0) := (kcl BK422.out 1).trans rfl
            have hfs51 := kfz BK422.out 1
            have hns51_0 := NB401_422.out
            have hms51_0 := NB422_401.out
            have hs52 : World.cell? _ ⟨gb422, 2, none⟩ = some (.int .i64 0) := (kcl BK422.out 2).trans rfl
            have hfs52 := kfz BK422.out 2
            have hns52_0 := NB401_422.out
            have hms52_0 := NB422_401.out
            have hs53 : World.cell? _ ⟨gb422, 3, none⟩ = some (.int .u32 0) := (kcl BK422.out 3).trans rfl
            have hfs53 := kfz BK422.out 3
            have hns53_0 := NB401_422.out
            have hms53_0 := NB422_401.out
            have hs54 : World.cell? _ ⟨gb422, 4, none⟩ = some (.int .i64 0) := (kcl BK422.out 4).trans rfl
            have hfs54 := kfz BK422.out 4
            have hns54_0 := NB401_422.out
            have hms54_0 := NB422_401.out
            refine skip_ (w1 := ?_) (by rfl) rfl ?_ ?_
            rotate_left
            ·go_simp
             rfl
            refine hK.out _ _ ⟨((cell_far (p := ⟨gb422, _, none⟩) (cell_ne hw405_0 GW422.out) _).trans (((cell_far (p := ⟨gb422, _, none⟩) (cell_ne hw405_0 GW422.out) _).trans (((cell_far (p := ⟨gb422, _, none⟩) (cell_ne hw405_0 GW422.out) _).trans (((cell_far (p := ⟨gb422, _, none⟩) (cell_ne hw405_0 GW422.out) _).trans (((cell_far (p := ⟨gb422, _, none⟩) (cell_ne hw405_0 GW422.out) _).trans (hHeld.1)))))))))), ((cell_far (p := ⟨gb422, _, none⟩) (cell_ne hw406_0 GW422.out) _).trans (((cell_far (p := ⟨gb422, _, none⟩) (cell_ne hw406_0 GW422.out) _).trans (((cell_far (p := ⟨gb422, _, none⟩) (cell_ne hw406_0 GW422.out) _).trans (((cell_far (p := ⟨gb422, _, none⟩) (cell_ne hw406_0 GW422.out) _).trans (((cell_far (p := ⟨gb422, _, none⟩) (cell_ne hw406_0 GW422.out) _).trans (hHeld.2))))))))))⟩ (fun hHeld => ?_)
            clear hK K
            refine done_ (done_of HT_.out (by kernel_rfl)) ?_
            have hnb55 := NB422_401.out
            have hnc55 := NB401_422.out
            have hcz56_0 : World.cell? _ ⟨gb422, 0, none⟩ = some (.int .i64 0) := (kcl BK422.out 0).trans rfl
            have hcz56_1 : World.cell? _ ⟨gb422, 1, none⟩ = some (.int .i64 0) := (kcl BK422.out 1).trans rfl
            have hcz56_2 : World.cell? _ ⟨gb422, 2, none⟩ = some (.int .i64 0) := (kcl BK422.out 2).trans rfl
            have hcz56_3 : World.cell? _ ⟨gb422, 3, none⟩ = some (.int .u32 0) := (kcl BK422.out 3).trans rfl
            have hcz56_4 : World.cell? _ ⟨gb422, 4, none⟩ = some (.int .i64 0) := (kcl BK422.out 4).trans rfl
            have hfz56_0 := kfz BK422.out 0
            have hfz56_1 := kfz BK422.out 1
            have hfz56_2 := kfz BK422.out 2
            have hfz56_3 := kfz BK422.out 3
            have hfz56_4 := kfz BK422.out 4
            try go_wp2_with (first | ((with_reducible refine gate_callee (f := 13) rfl ?_); refine goesL_ (some 47) rfl rfl Try.func13 (by kernel_rfl) rfl #[.agg #[.int .i64 (wrap64 (rd l0 2)), .int .i64 (wrap64 (rd l0 3)), .int .i64 (wrap64 (t411)), .int .u32 ((t416) % 4294967296), .int .i64 (wrap64 (t421))]] rfl (by (try simp only [List.map_toArray, List.map_cons, List.map_nil]); first | done | rfl | (simp only [List.length_drop, List.length_take]; rfl)) ?_; (with_reducible refine (rf_RightControl.calls (wrap64 (rd l0 2)) (wrap64 (rd l0 3)) (wrap64 (t411)) ((t416) % 4294967296) (wrap64 (t421)) true _ A20.out).mono ?_); rintro e w57 ⟨rfl, hb⟩; refine ⟨_, rfl, ?_⟩; have n0_ := Azz.mk (blk_below (g := gb401) (o := .cells #[.int .i64 0, .int .i64 0, .int .i64 0, .int .u32 0, .int .i64 0] 24 (0, 0)) (by (with_reducible repeat (first | refine kdN ?_ _ | refine kd1 ?_ | refine kal ?_ _)); refine blk_far ?_ NB401_422.out _; (with_reducible repeat (first | refine kdN ?_ _ | refine kd1 ?_ | refine kal ?_ _)); refine blk_far ?_ NB401_422.out _; (with_reducible repeat (first | refine kdN ?_ _ | refine kd1 ?_ | refine kal ?_ _)); refine blk_far ?_ NB401_422.out _; (with_reducible repeat (first | refine kdN ?_ _ | refine kd1 ?_ | refine kal ?_ _)); refine blk_far ?_ NB401_422.out _; (with_reducible repeat (first | refine kdN ?_ _ | refine kd1 ?_ | refine kal ?_ _)); refine blk_far ?_ NB401_422.out _; (with_reducible repeat (first | refine kdN ?_ _ | refine kd1 ?_ | refine kal ?_ _)); exact BK401.out) hb); have n1_ := Azz.mk (blk_below (g := gb422) (o := .cells #[.int .i64 (wrap64 (rd l0 2)), .int .i64 (wrap64 (rd l0 3)), .int .i64 (wrap64 (t411)), .int .u32 ((t416) % 4294967296), .int .i64 (wrap64 (t421))] 24 (0, 0)) (by (with_reducible repeat (first | refine kdN ?_ _ | refine kd1 ?_ | refine kal ?_ _)); refine blk_put (cs := #[.int .i64 (wrap64 (rd l0 2)), .int .i64 (wrap64 (rd l0 3)), .int .i64 (wrap64 (t411)), .int .u32 ((t416) % 4294967296), .int .i64 0]) ?_ 4 _ rfl; (with_reducible repeat (first | refine kdN ?_ _ | refine kd1 ?_ | refine kal ?_ _)); refine blk_put (cs := #[.int .i64 (wrap64 (rd l0 2)), .int .i64 (wrap64 (rd l0 3)), .int .i64 (wrap64 (t411)), .int .u32 0, .int .i64 0]) ?_ 3 _ rfl; (with_reducible repeat (first | refine kdN ?_ _ | refine kd1 ?_ | refine kal ?_ _)); refine blk_put (cs := #[.int .i64 (wrap64 (rd l0 2)), .int .i64 (wrap64 (rd l0 3)), .int .i64 0, .int .u32 0, .int .i64 0]) ?_ 2 _ rfl; (with_reducible repeat (first | refine kdN ?_ _ | refine kd1 ?_ | refine kal ?_ _)); refine blk_put (cs := #[.int .i64 (wrap64 (rd l0 2)), .int .i64 0, .int .i64 0, .int .u32 0, .int .i64 0]) ?_ 1 _ rfl; (with_reducible repeat (first | refine kdN ?_ _ | refine kd1 ?_ | refine kal ?_ _)); refine blk_put (cs := #[.int .i64 0, .int .i64 0, .int .i64 0, .int .u32 0, .int .i64 0]) ?_ 0 _ rfl; (with_reducible repeat (first | refine kdN ?_ _ | refine kd1 ?_ | refine kal ?_ _)); exact BK422.out) hb); have n2_ := Azz.mk (below_step (by repeat (first | (with_reducible first | exact HB.out | apply bal | apply pbN | apply bd1 | refine bst ?_ GE401.out | refine bst ?_ GE422.out) | exact HB.out)) hb); clear BK401; clear BK422; clear HB; have BK401 := n0_; have BK422 := n1_; have HB := n2_; clear n0_ n1_ n2_; (try clear hb); (try clear hb2); (try clear hk); (try clear hi); have hcz58_0 : World.cell? _ ⟨gb422, 0, none⟩ = some (.int .i64 (wrap64 (rd l0 2))) := (kcl BK422.out 0).trans rfl; have hcz58_1 : World.cell? _ ⟨gb422, 1, none⟩ = some (.int .i64 (wrap64 (rd l0 3))) := (kcl BK422.out 1).trans rfl; have hcz58_2 : World.cell? _ ⟨gb422, 2, none⟩ = some (.int .i64 (wrap64 (t411))) := (kcl BK422.out 2).trans rfl; have hcz58_3 : World.cell? _ ⟨gb422, 3, none⟩ = some (.int .u32 ((t416) % 4294967296)) := (kcl BK422.out 3).trans rfl; have hcz58_4 : World.cell? _ ⟨gb422, 4, none⟩ = some (.int .i64 (wrap64 (t421))) := (kcl BK422.out 4).trans rfl; have hfz58_0 := kfz BK422.out 0; have hfz58_1 := kfz BK422.out 1; have hfz58_2 := kfz BK422.out 2; have hfz58_3 := kfz BK422.out 3; have hfz58_4 := kfz BK422.out 4) | (go_at_call 15; (with_reducible refine (rf_Control.calls kj1 (wrap64 (rd l0 2)) (wrap64 (rd l0 3)) (wrap64 (t411)) ((t416) % 4294967296) (wrap64 (t421)) t424 _ A22.out).mono ?_); rintro e w59 ⟨v425, rfl, ho0, hb⟩; have n0_ := Azz.mk (Kd.R_lower ho0 (below_size (by repeat (first | (with_reducible first | exact HB.out | apply bal | apply pbN | apply bd1 | refine bst ?_ GE401.out | refine bst ?_ GE422.out) | exact HB.out)))); have n1_ := Azz.mk (blk_below (g := gb401) (o := .cells #[.int .i64 0, .int .i64 0, .int .i64 0, .int .u32 0, .int .i64 0] 24 (0, 0)) (by (with_reducible repeat (first | refine kdN ?_ _ | refine kd1 ?_ | refine kal ?_ _)); exact BK401.out) hb); have n2_ := Azz.mk (blk_below (g := gb422) (o := .cells #[.int .i64 (wrap64 (rd l0 2)), .int .i64 (wrap64 (rd l0 3)), .int .i64 (wrap64 (t411)), .int .u32 ((t416) % 4294967296), .int .i64 (wrap64 (t421))] 24 (0, 0)) (by (with_reducible repeat (first | refine kdN ?_ _ | refine kd1 ?_ | refine kal ?_ _)); exact BK422.out) hb); have n3_ := Azz.mk (below_step (by repeat (first | (with_reducible first | exact HB.out | apply bal | apply pbN | apply bd1 | refine bst ?_ GE401.out | refine bst ?_ GE422.out) | exact HB.out)) hb); clear BK401; clear BK422; clear HB; have HO426 := n0_; have BK401 := n1_; have BK422 := n2_; have HB := n3_; clear n0_ n1_ n2_ n3_; (try clear hb); (try clear hb2); (try clear hk); (try clear hi); (try clear ho0); obtain ⟨Ao60, co60, eo60⟩ := Kd.R_slice HO426.out; subst eo60) | (go_at_call 37; (with_reducible refine (rf_same.calls _ _ t424 _ _ l0 false _ ?side1 ?side2 ?side3 ?side4 A23.out).mono ?_); (case side1 => repeat (first | exact (Kd.R_reads' HO426.out).2.2 | (with_reducible refine Kd.C_alloc ?_ _) | (with_reducible refine Kd.C_drewN ?_ _) | (with_reducible refine Kd.C_drew ?_))); (case side2 => exact (Kd.R_reads' HO426.out).2.1); (case side3 => repeat (first | exact (Kd.C_below HR0.out HB.out) | (with_reducible refine Kd.C_alloc ?_ _) | (with_reducible refine Kd.C_drewN ?_ _) | (with_reducible refine Kd.C_drew ?_))); (case side4 => exact HC0.out); rintro e w' ⟨rfl, ⟨nd, rfl⟩⟩; (try (rw [drewN_self w59]; generalize hq_ : World.drewN w59 _ = w59; have n0_ : Azz (Kd.R (Kd.int .u8) 5 w59 w.heap.size (fun _ => True) (.slice Ao60 t424.length co60) t424) := ⟨by rw [← hq_]; exact (by (with_reducible repeat (first | apply Kd.R_alloc | apply Kd.R_drewN | apply Kd.R_drew)); exact HO426.out)⟩; have n1_ : Azz (w59.heap[gb401]? = some (.cells #[.int .i64 0, .int .i64 0, .int .i64 0, .int .u32 0, .int .i64 0] 24 (0, 0))) := ⟨by rw [← hq_]; exact (by (with_reducible repeat (first | refine kdN ?_ _ | refine kd1 ?_ | refine kal ?_ _)); exact BK401.out)⟩; have n2_ : Azz (w59.heap[gb422]? = some (.cells #[.int .i64 (wrap64 (rd l0 2)), .int .i64 (wrap64 (rd l0 3)), .int .i64 (wrap64 (t411)), .int .u32 ((t416) % 4294967296), .int .i64 (wrap64 (t421))] 24 (0, 0))) := ⟨by rw [← hq_]; exact (by (with_reducible repeat (first | refine kdN ?_ _ | refine kd1 ?_ | refine kal ?_ _)); exact BK422.out)⟩; have n3_ : Azz (Below w.heap.size w w59) := ⟨by rw [← hq_]; exact (by repeat (first | (with_reducible first | exact HB.out | apply bal | apply pbN | apply bd1 | refine bst ?_ GE401.out | refine bst ?_ GE422.out) | exact HB.out))⟩; clear HO426 BK401 BK422 HB hq_; have HO426 := n0_; have BK401 := n1_; have BK422 := n2_; have HB := n3_; clear n0_ n1_ n2_ n3_)); have hcz61_0 : World.cell? _ ⟨gb401, 0, none⟩ = some (.int .i64 0) := (kcl BK401.out 0).trans rfl; have hcz61_1 : World.cell? _ ⟨gb401, 1, none⟩ = some (.int .i64 0) := (kcl BK401.out 1).trans rfl; have hcz61_2 : World.cell? _ ⟨gb401, 2, none⟩ = some (.int .i64 0) := (kcl BK401.out 2).trans rfl; have hcz61_3 : World.cell? _ ⟨gb401, 3, none⟩ = some (.int .u32 0) := (kcl BK401.out 3).trans rfl; have hcz61_4 : World.cell? _ ⟨gb401, 4, none⟩ = some (.int .i64 0) := (kcl BK401.out 4).trans rfl; have hfz61_0 := kfz BK401.out 0; have hfz61_1 := kfz BK401.out 1; have hfz61_2 := kfz BK401.out 2; have hfz61_3 := kfz BK401.out 3; have hfz61_4 := kfz BK401.out 4))
            refine bodyPost_ret (results_ct rfl _ _ gb401 24 #[.int .i64 0, .int .i64 0, .int .i64 0, .int .u32 0, .int .i64 0] (0, 0) _ rfl (by (with_reducible repeat (first | refine kdN ?_ _ | refine kd1 ?_ | refine kal ?_ _)); refine blk_put (cs := #[.int .i64 0, .int .i64 0, .int .i64 0, .int .u32 0, .int .i64 0]) ?_ 4 _ rfl; (with_reducible repeat (first | refine kdN ?_ _ | refine kd1 ?_ | refine kal ?_ _)); refine blk_put (cs := #[.int .i64 0, .int .i64 0, .int .i64 0, .int .u32 0, .int .i64 0]) ?_ 3 _ rfl; (with_reducible repeat (first | refine kdN ?_ _ | refine kd1 ?_ | refine kal ?_ _)); refine blk_put (cs := #[.int .i64 0, .int .i64 0, .int .i64 0, .int .u32 0, .int .i64 0]) ?_ 2 _ rfl; (with_reducible repeat (first | refine kdN ?_ _ | refine kd1 ?_ | refine kal ?_ _)); refine blk_put (cs := #[.int .i64 0, .int .i64 0, .int .i64 0, .int .u32 0, .int .i64 0]) ?_ 1 _ rfl; (with_reducible repeat (first | refine kdN ?_ _ | refine kd1 ?_ | refine kal ?_ _)); refine blk_put (cs := #[.int .i64 0, .int .i64 0, .int .i64 0, .int .u32 0, .int .i64 0]) ?_ 0 _ rfl; (with_reducible repeat (first | refine kdN ?_ _ | refine kd1 ?_ | refine kal ?_ _)); exact BK401.out) Try.underlying24 rfl (by kernel_rfl)) rfl ?_
            exact ⟨by first | rfl | (simp [errW_none, errW_some] <;> rfl) | (simp [*, errW_none, errW_some] <;> rfl), by repeat (first | (with_reducible first | exact HB.out | apply bal | apply pbN | apply bd1 | refine bst ?_ GE401.out | refine bst ?_ GE422.out) | exact HB.out)⟩
          ·replace c21 := Bool.eq_false_iff.mpr c21
           subst c21
           have H1 : (some (0, 0, 0, 0, 0, 2)) = some (r1, r2, r3, r4, r5, r6) := by rw [if_neg (show ¬ (false = true) by decide)] at H; exact H
           clear H
           have H := H1
           clear H1
           simp only [Option.some.injEq, Prod.mk.injEq] at H
           obtain ⟨rfl, rfl, rfl, rfl, rfl, rfl⟩ := H
           try go_wp2_with (first | ((with_reducible refine gate_callee (f := 35) rfl ?_); refine goesL_ (some 22) rfl rfl Try.func35 (by kernel_rfl) rfl #[.slice A0 l0.length c0] rfl (by (try simp only [List.map_toArray, List.map_cons, List.map_nil]); first | done | rfl | (simp only [List.length_drop, List.length_take]; rfl)) ?_; (with_reducible refine (rf_sum.calls kj1 _ _ l0 true _ ?side1 ?side2 A10.out).mono ?_); (case side1 => repeat (first | exact (Kd.C_below HR0.out HB.out) | (with_reducible refine Kd.C_alloc ?_ _) | (with_reducible refine Kd.C_drewN ?_ _) | (with_reducible refine Kd.C_drew ?_))); (case side2 => exact HC0.out); rintro e w' ⟨rfl, ⟨nd, rfl⟩⟩; refine ⟨_, rfl, ?_⟩; (try (rw [drewN_self wc]; generalize hq_ : World.drewN wc _ = wc; have n0_ : Azz (wc.heap[gb401]? = some (.cells #[.int .i64 0, .int .i64 0, .int .i64 0, .int .u32 0, .int .i64 0] 24 (0, 0))) := ⟨by rw [← hq_]; exact (by (with_reducible repeat (first | refine kdN ?_ _ | refine kd1 ?_ | refine kal ?_ _)); exact BK401.out)⟩; have n1_ : Azz (Below w.heap.size w wc) := ⟨by rw [← hq_]; exact (by repeat (first | (with_reducible first | exact HB.out | apply bal | apply pbN | apply bd1 | refine bst ?_ GE401.out) | exact HB.out))⟩; clear BK401 HB hq_; have BK401 := n0_; have HB := n1_; clear n0_ n1_))))
           have n0_ := Azz.mk (kd1 BK401.out)
           have n1_ := Azz.mk (bd1 HB.out)
           clear BK401
           clear HB
           have BK401 := n0_
           have HB := n1_
           clear n0_ n1_
           have p405 : 0 ≤ (2 : Int) := (by omega)
           have q405 : 2 < (l0.length : Int) := of_decide_eq_true (by first | (with_reducible assumption) | assumption)
           obtain ⟨ad405, e405, hx405_0⟩ := Kd.at_int HR0.out 2 p405 q405
           have hw405_0 := hx405_0
           (try rw [show ((2 : Int)).toNat = 2 from rfl] at hw405_0)
           (try rw [show 2 * 1 = 2 from rfl] at hw405_0)
           (try simp only [Nat.reduceMul, Nat.reduceEqDiff, Go.Addr.add, ↓reduceIte] at hw405_0)
           cases e405
           (try simp only [show (2 : Int).toNat = 2 from rfl, Nat.reduceMul, Nat.reduceEqDiff, Go.Addr.add, ↓reduceIte] at hx405_0)
           have qi405 : (2 < l0.length) = True := eq_true (by omega)
           (try rw [show ((2 : Int)).toNat = 2 from rfl] at hx405_0)
           replace hx405_0 := (HB.out.cell (World.block_lt_of_cell? w _ hx405_0)).trans hx405_0
           replace p405 := eq_true p405
           replace q405 := eq_true q405
           have p406 : 0 ≤ (3 : Int) := (by omega)
           have q406 : 3 < (l0.length : Int) := of_decide_eq_true (by first | (with_reducible assumption) | assumption)
           obtain ⟨ad406, e406, hx406_0⟩ := Kd.at_int HR0.out 3 p406 q406
           have hw406_0 := hx406_0
           (try rw [show ((3 : Int)).toNat = 3 from rfl] at hw406_0)
           (try rw [show 3 * 1 = 3 from rfl] at hw406_0)
           (try simp only [Nat.reduceMul, Nat.reduceEqDiff, Go.Addr.add, ↓reduceIte] at hw406_0)
           obtain rfl : ad405 = ad406 := (by injection e406)
           (try simp only [show (3 : Int).toNat = 3 from rfl, Nat.reduceMul, Nat.reduceEqDiff, Go.Addr.add, ↓reduceIte] at hx406_0)
           have qi406 : (3 < l0.length) = True := eq_true (by omega)
           (try rw [show ((3 : Int)).toNat = 3 from rfl] at hx406_0)
           replace hx406_0 := (HB.out.cell (World.block_lt_of_cell? w _ hx406_0)).trans hx406_0
           replace p406 := eq_true p406
           replace q406 := eq_true q406
           have q63 : (12 : Int) ≤ ((l0.length : Int) : Int) := of_decide_eq_true (by first | (with_reducible assumption) | assumption)
           obtain ⟨i063, hi063, _, hsz63, _⟩ := info_parts info5
           have hroom63 : l0.length ≤ c0 := HC0.out
           have hC63 : Kd.C (Kd.int .u8) _ (some ad405) l0.length l0 := HR0.out
           have ql63 : (4 : Int) ≤ (12 : Int) := (by omega)
           have hcut63 := cut_mid (P := Try.prog) 26 5 .i64 .i64 Try.underlying26 hi063 1 hsz63 (some ad405) l0.length c0 4 12 (by omega) ql63 q63 hroom63
           have hr63 := Kd.C_mid (lo := (4 : Int).toNat) (hi := (12 : Int).toNat) (c := c0) hC63 (by omega) (by omega) hroom63
           obtain ⟨A63, hA63⟩ : ∃ A1, A1 = (if c0 = (4 : Int).toNat then (some ad405) else ((some ad405) : Option Addr).map (·.add ((4 : Int).toNat * 1))) := ⟨_, rfl⟩
           obtain ⟨c63, hc63⟩ : ∃ c1, c1 = c0 - (4 : Int).toNat := ⟨_, rfl⟩
           have hy63 : y407.length = (12 : Int).toNat - (4 : Int).toNat := (by rw [Ny407.out, List.length_drop, List.length_take] <;> omega)
           rw [show ((l0).take (12 : Int).toNat).drop (4 : Int).toNat = y407 from Ny407.out.symm] at hr63
           replace hr63 : Kd.C (Kd.int .u8) _ A63 y407.length y407 := (by rw [hA63]; exact hr63)
           rw [← hy63, ← hA63, ← hc63] at hcut63
           have HR410 := Azz.mk hr63
           have HC410 := Azz.mk (show y407.length ≤ c63 from by rw [hy63, hc63]; exact Nat.sub_le_sub_right (Nat.le_trans (by omega) hroom63) _)
           clear hr63 hC63 hroom63 hi063 hsz63 hc63
           have KY63 := Azz.mk hy63
           have KA63 := Azz.mk hA63
           clear hy63 hA63
           replace q63 := eq_true q63
           have q64 : (16 : Int) ≤ ((l0.length : Int) : Int) := of_decide_eq_true (by first | (with_reducible assumption) | assumption)
           obtain ⟨i064, hi064, _, hsz64, _⟩ := info_parts info5
           have hroom64 : l0.length ≤ c0 := HC0.out
           have hC64 : Kd.C (Kd.int .u8) _ (some ad405) l0.length l0 := HR0.out
           have ql64 : (12 : Int) ≤ (16 : Int) := (by omega)
           have hcut64 := cut_mid (P := Try.prog) 26 5 .i64 .i64 Try.underlying26 hi064 1 hsz64 (some ad405) l0.length c0 12 16 (by omega) ql64 q64 hroom64
           have hr64 := Kd.C_mid (lo := (12 : Int).toNat) (hi := (16 : Int).toNat) (c := c0) hC64 (by omega) (by omega) hroom64
           obtain ⟨A64, hA64⟩ : ∃ A1, A1 = (if c0 = (12 : Int).toNat then (some ad405) else ((some ad405) : Option Addr).map (·.add ((12 : Int).toNat * 1))) := ⟨_, rfl⟩
           obtain ⟨c64, hc64⟩ : ∃ c1, c1 = c0 - (12 : Int).toNat := ⟨_, rfl⟩
           have hy64 : y412.length = (16 : Int).toNat - (12 : Int).toNat := (by rw [Ny412.out, List.length_drop, List.length_take] <;> omega)
           rw [show ((l0).take (16 : Int).toNat).drop (12 : Int).toNat = y412 from Ny412.out.symm] at hr64
           replace hr64 : Kd.C (Kd.int .u8) _ A64 y412.length y412 := (by rw [hA64]; exact hr64)
           rw [← hy64, ← hA64, ← hc64] at hcut64
           have HR415 := Azz.mk hr64
           have HC415 := Azz.mk (show y412.length ≤ c64 from by rw [hy64, hc64]; exact Nat.sub_le_sub_right (Nat.le_trans (by omega) hroom64) _)
           clear hr64 hC64 hroom64 hi064 hsz64 hc64
           have KY64 := Azz.mk hy64
           have KA64 := Azz.mk hA64
           clear hy64 hA64
           replace q64 := eq_true q64
           have q65 : (24 : Int) ≤ ((l0.length : Int) : Int) := of_decide_eq_true (by first | (with_reducible assumption) | assumption)
           obtain ⟨i065, hi065, _, hsz65, _⟩ := info_parts info5
           have hroom65 : l0.length ≤ c0 := HC0.out
           have hC65 : Kd.C (Kd.int .u8) _ (some ad405) l0.length l0 := HR0.out
           have ql65 : (16 : Int) ≤ (24 : Int) := (by omega)
           have hcut65 := cut_mid (P := Try.prog) 26 5 .i64 .i64 Try.underlying26 hi065 1 hsz65 (some ad405) l0.length c0 16 24 (by omega) ql65 q65 hroom65
           have hr65 := Kd.C_mid (lo := (16 : Int).toNat) (hi := (24 : Int).toNat) (c := c0) hC65 (by omega) (by omega) hroom65
           obtain ⟨A65, hA65⟩ : ∃ A1, A1 = (if c0 = (16 : Int).toNat then (some ad405) else ((some ad405) : Option Addr).map (·.add ((16 : Int).toNat * 1))) := ⟨_, rfl⟩
           obtain ⟨c65, hc65⟩ : ∃ c1, c1 = c0 - (16 : Int).toNat := ⟨_, rfl⟩
           have hy65 : y417.length = (24 : Int).toNat - (16 : Int).toNat := (by rw [Ny417.out, List.length_drop, List.length_take] <;> omega)
           rw [show ((l0).take (24 : Int).toNat).drop (16 : Int).toNat = y417 from Ny417.out.symm] at hr65
           replace hr65 : Kd.C (Kd.int .u8) _ A65 y417.length y417 := (by rw [hA65]; exact hr65)
           rw [← hy65, ← hA65, ← hc65] at hcut65
           have HR420 := Azz.mk hr65
           have HC420 := Azz.mk (show y417.length ≤ c65 from by rw [hy65, hc65]; exact Nat.sub_le_sub_right (Nat.le_trans (by omega) hroom65) _)
           clear hr65 hC65 hroom65 hi065 hsz65 hc65
           have KY65 := Azz.mk hy65
           have KA65 := Azz.mk hA65
           clear hy65 hA65
           replace q65 := eq_true q65
           refine start_ (n := 23) (S := fun w' => w'.cell? ⟨ad405.block, ad405.off + 2, none⟩ = some (.int .u8 (rd l0 2)) ∧ w'.cell? ⟨ad405.block, ad405.off + 3, none⟩ = some (.int .u8 (rd l0 3))) (ds := []) #[false, false, false, false, false, false, false, false, false, false, false, false, false, false, false, false, false, false, false, false, false, false, false] (by kernel_rfl) rfl rfl ⟨((HB.out.cell (World.block_lt_of_cell? w _ hw405_0)).trans hw405_0), ((HB.out.cell (World.block_lt_of_cell? w _ hw406_0)).trans hw406_0)⟩ (fun hHeld => ?_); refine with_tabW rf_ReadControl.tab5 rf_ReadControl.bits5 (fun HT_ HW_ => ?_)
           generalize wc.drew = w62 at BK401 HB HR410 HR415 HR420 hx405_0 hx406_0 hHeld ⊢
           refine pure_ (i := 0) (N := some 25) (v := ?_) (a' := ?_) #[true, false, false, false, false, false, false, false, false, false, false, false, false, false, false, false, false, false, false, false, false, false, false] rfl rfl (any_of HT_.out (by kernel_rfl)) (fun _ _ _ h => h) (Or.inl ⟨by rfl, ?_⟩) ?_ ?_
           rotate_left
           ·intro w'
            go_simp
            with_reducible rfl
           rotate_left
           ·simp only [Act.put, List.setIfInBounds_toArray, List.set_cons_zero, List.set_cons_succ, i64_w, i32_w]
            rfl
           refine pure_ (i := 1) (N := some 26) (v := ?_) (a' := ?_) #[true, true, false, false, false, false, false, false, false, false, false, false, false, false, false, false, false, false, false, false, false, false, false] rfl rfl (any_of HT_.out (by kernel_rfl)) (fun _ _ _ h => h) (Or.inl ⟨by rfl, ?_⟩) ?_ ?_
           rotate_left
           ·intro w'
            go_simp
            with_reducible rfl
           rotate_left
           ·simp only [Act.put, List.setIfInBounds_toArray, List.set_cons_zero, List.set_cons_succ, i64_w, i32_w]
            rfl
           refine pure_ (i := 4) (N := some 29) (v := ?_) (a' := ?_) #[true, true, false, false, true, false, false, false, false, false, false, false, false, false, false, false, false, false, false, false, false, false, false] rfl rfl (any_of HT_.out (by kernel_rfl)) (fun _ _ _ h => h) (Or.inl ⟨by rfl, ?_⟩) ?_ ?_
           rotate_left
           ·intro w'
            go_simp
            with_reducible rfl
           rotate_left
           ·simp only [Act.put, List.setIfInBounds_toArray, List.set_cons_zero, List.set_cons_succ, i64_w, i32_w]
            rfl
           refine pure_ (i := 5) (N := some 30) (v := ?_) (a' := ?_) #[true, true, false, false, true, true, false, false, false, false, false, false, false, false, false, false, false, false, false, false, false, false, false] rfl rfl (any_of HT_.out (by kernel_rfl)) (fun _ _ _ h => h) (Or.inl ⟨by rfl, ?_⟩) ?_ ?_
           rotate_left
           ·intro w'
            go_simp
            with_reducible rfl
           rotate_left
           ·simp only [Act.put, List.setIfInBounds_toArray, List.set_cons_zero, List.set_cons_succ, i64_w, i32_w]
            rfl
           refine pure_ (i := 8) (N := some 33) (v := ?_) (a' := ?_) #[true, true, false, false, true, true, false, false, true, false, false, false, false, false, false, false, false, false, false, false, false, false, false] rfl rfl (any_of HT_.out (by kernel_rfl)) (fun _ _ _ h => h) (Or.inl ⟨by rfl, ?_⟩) ?_ ?_
           rotate_left
           ·intro w'
            go_simp
            with_reducible rfl
           rotate_left
           ·simp only [Act.put, List.setIfInBounds_toArray, List.set_cons_zero, List.set_cons_succ, i64_w, i32_w]
            rfl
           refine pure_ (i := 9) (N := some 34) (v := ?_) (a' := ?_) #[true, true, false, false, true, true, false, false, true, true, false, false, false, false, false, false, false, false, false, false, false, false, false] rfl rfl (any_of HT_.out (by kernel_rfl)) (fun _ _ _ h => h) (Or.inl ⟨by rfl, ?_⟩) ?_ ?_
           rotate_left
           ·intro w'
            go_simp
            with_reducible rfl
           rotate_left
           ·simp only [Act.put, List.setIfInBounds_toArray, List.set_cons_zero, List.set_cons_succ, i64_w, i32_w]
            rfl
           refine pure_ (i := 12) (N := some 37) (v := ?_) (a' := ?_) #[true, true, false, false, true, true, false, false, true, true, false, false, true, false, false, false, false, false, false, false, false, false, false] rfl rfl (any_of HT_.out (by kernel_rfl)) (fun _ _ _ h => h) (Or.inl ⟨by rfl, ?_⟩) ?_ ?_
           rotate_left
           ·intro w'
            go_simp
            with_reducible rfl
           rotate_left
           ·simp only [Act.put, List.setIfInBounds_toArray, List.set_cons_zero, List.set_cons_succ, i64_w, i32_w]
            rfl
           refine pure_ (i := 13) (N := some 38) (v := ?_) (a' := ?_) #[true, true, false, false, true, true, false, false, true, true, false, false, true, true, false, false, false, false, false, false, false, false, false] rfl rfl (any_of HT_.out (by kernel_rfl)) (fun _ _ _ h => h) (Or.inl ⟨by rfl, ?_⟩) ?_ ?_
           rotate_left
           ·intro w'
            go_simp
            with_reducible rfl
           rotate_left
           ·simp only [Act.put, List.setIfInBounds_toArray, List.set_cons_zero, List.set_cons_succ, i64_w, i32_w]
            rfl
           refine pure_ (i := 16) (N := some 41) (v := ?_) (a' := ?_) #[true, true, false, false, true, true, false, false, true, true, false, false, true, true, false, false, true, false, false, false, false, false, false] rfl rfl (any_of HT_.out (by kernel_rfl)) (fun _ _ _ h => h) (Or.inl ⟨by rfl, ?_⟩) ?_ ?_
           rotate_left
           ·intro w'
            go_simp
            with_reducible rfl
           rotate_left
           ·simp only [Act.put, List.setIfInBounds_toArray, List.set_cons_zero, List.set_cons_succ, i64_w, i32_w]
            rfl
           refine pure_ (i := 17) (N := some 42) (v := ?_) (a' := ?_) #[true, true, false, false, true, true, false, false, true, true, false, false, true, true, false, false, true, true, false, false, false, false, false] rfl rfl (any_of HT_.out (by kernel_rfl)) (fun _ _ _ h => h) (Or.inl ⟨by rfl, ?_⟩) ?_ ?_
           rotate_left
           ·intro w'
            go_simp
            with_reducible rfl
           rotate_left
           ·simp only [Act.put, List.setIfInBounds_toArray, List.set_cons_zero, List.set_cons_succ, i64_w, i32_w]
            rfl
           refine take_ (i := 2) (N := some 27) (v := ?_) (a' := ?_) #[true, true, true, false, true, true, false, false, true, true, false, false, true, true, false, false, true, true, false, false, false, false, false] rfl rfl (take_ofW HT_.out HW_.out (by kernel_rfl)) (fun _ _ _ h => h) (Or.inl ⟨by rfl, ?_⟩) hHeld ?_ ?_
           rotate_left
           ·rintro w' ⟨s0, s1⟩
            go_simp
            with_reducible rfl
           rotate_left
           ·simp only [Act.put, List.setIfInBounds_toArray, List.set_cons_zero, List.set_cons_succ, i64_w, i32_w]
            rfl
           refine pure_ (i := 3) (N := some 28) (v := ?_) (a' := ?_) #[true, true, true, true, true, true, false, false, true, true, false, false, true, true, false, false, true, true, false, false, false, false, false] rfl rfl (any_of HT_.out (by kernel_rfl)) (fun _ _ _ h => h) (Or.inl ⟨by rfl, ?_⟩) ?_ ?_
           rotate_left
           ·intro w'
            go_simp
            with_reducible rfl
           rotate_left
           ·simp only [Act.put, List.setIfInBounds_toArray, List.set_cons_zero, List.set_cons_succ, i64_w, i32_w]
            rfl
           refine take_ (i := 6) (N := some 31) (v := ?_) (a' := ?_) #[true, true, true, true, true, true, true, false, true, true, false, false, true, true, false, false, true, true, false, false, false, false, false] rfl rfl (take_ofW HT_.out HW_.out (by kernel_rfl)) (fun _ _ _ h => h) (Or.inl ⟨by rfl, ?_⟩) hHeld ?_ ?_
           rotate_left
           ·rintro w' ⟨s0, s1⟩
            go_simp
            with_reducible rfl
           rotate_left
           ·simp only [Act.put, List.setIfInBounds_toArray, List.set_cons_zero, List.set_cons_succ, i64_w, i32_w]
            rfl
           refine pure_ (i := 7) (N := some 32) (v := ?_) (a' := ?_) #[true, true, true, true, true, true, true, true, true, true, false, false, true, true, false, false, true, true, false, false, false, false, false] rfl rfl (any_of HT_.out (by kernel_rfl)) (fun _ _ _ h => h) (Or.inl ⟨by rfl, ?_⟩) ?_ ?_
           rotate_left
           ·intro w'
            go_simp
            with_reducible rfl
           rotate_left
           ·simp only [Act.put, List.setIfInBounds_toArray, List.set_cons_zero, List.set_cons_succ, i64_w, i32_w]
            rfl
           refine join_ (σ := Nat) 1 #[true, true, true, true, true, true, true, true, true, true, true, true, true, true, true, true, true, true, true, true, true, true, false] (fun s_ => [(35, .int .u64 t411), (39, .int .u64 t416), (43, .int .u64 t421), (4, .pointer (some ⟨s_, 0, none⟩)), (36, .int .i64 (wrap64 (t411))), (40, .int .u32 ((t416) % 4294967296)), (44, .int .i64 (wrap64 (t421))), (45, .agg #[.int .i64 (wrap64 (rd l0 2)), .int .i64 (wrap64 (rd l0 3)), .int .i64 (wrap64 (t411)), .int .u32 ((t416) % 4294967296), .int .i64 (wrap64 (t421))])]) (fun s_ w' => (w'.cell? ⟨ad405.block, ad405.off + 2, none⟩ = some (.int .u8 (rd l0 2)) ∧ w'.cell? ⟨ad405.block, ad405.off + 3, none⟩ = some (.int .u8 (rd l0 3))) ∧ (w'.heap[gb401]? = some (.cells #[.int .i64 0, .int .i64 0, .int .i64 0, .int .u32 0, .int .i64 0] 24 (0, 0))) ∧ (w'.heap[s_]? = some (.cells #[.int .i64 0, .int .i64 0, .int .i64 0, .int .u32 0, .int .i64 0] 24 (0, 0))) ∧ (w.heap.size ≤ s_) ∧ (w.heap.size ≤ s_) ∧ (gb401 ≠ s_) ∧ (s_ ≠ gb401) ∧ (Below w.heap.size w w')) ?_ ?_
           rotate_left
           ·intro hCont
            refine two_ (i := 10) (j := 21) (Ni := some 35) (Nj := some 4) #[true, true, true, true, true, true, true, true, true, true, true, false, true, true, false, false, true, true, false, false, false, false, false] #[true, true, true, true, true, true, true, true, true, true, false, false, true, true, false, false, true, true, false, false, false, true, false] rfl rfl rfl rfl (two_of HT_.out (by kernel_rfl)) (by decide) (by decide) (fun K hK => ?_) (fun K hK => ?_)
            ·skip
             refine goes_ Try.func36 (by kernel_rfl) rfl #[.slice A63 y407.length c63] (by rfl) rfl rfl (by (try simp only [List.map_toArray, List.map_cons, List.map_nil]); first | done | rfl | (simp only [List.length_drop, List.length_take]; rfl)) ?_
             with_reducible refine (rf_value.calls kj1 _ _ y407 t411 _ ?side1 ?side2 A15.out).mono ?_
             (case side1 => repeat (first | exact (Kd.C_below HR410.out HB.out) | (with_reducible refine Kd.C_alloc ?_ _) | (with_reducible refine Kd.C_drewN ?_ _) | (with_reducible refine Kd.C_drew ?_)))
             (case side2 => exact HC410.out)
             rintro e w' ⟨rfl, ⟨nd, rfl⟩⟩
             refine ⟨_, rfl, ?_⟩
             refine hK.out _ _ ⟨((HB.out.cell (World.block_lt_of_cell? w _ hw405_0)).trans hw405_0), ((HB.out.cell (World.block_lt_of_cell? w _ hw406_0)).trans hw406_0)⟩ (fun hHeld => ?_)
             clear hK K
             refine norm_ (a' := ?_) ?_ ?_
             rotate_left
             ·show Act.put _ (some 35) _ = _
              simp only [Act.put, List.setIfInBounds_toArray, List.set_cons_zero, List.set_cons_succ, i64_w, i32_w]
              rfl
             refine pure_ (i := 11) (N := some 36) (v := ?_) (a' := ?_) #[true, true, true, true, true, true, true, true, true, true, true, true, true, true, false, false, true, true, false, false, false, false, false] rfl rfl (any_of HT_.out (by kernel_rfl)) (fun _ _ _ h => h) (Or.inl ⟨by rfl, ?_⟩) ?_ ?_
             rotate_left
             ·intro w'
              go_simp
              with_reducible rfl
             rotate_left
             ·simp only [Act.put, List.setIfInBounds_toArray, List.set_cons_zero, List.set_cons_succ, i64_w, i32_w]
              rfl
             refine two_ (i := 14) (j := 21) (Ni := some 39) (Nj := some 4) #[true, true, true, true, true, true, true, true, true, true, true, true, true, true, true, false, true, true, false, false, false, false, false] #[true, true, true, true, true, true, true, true, true, true, true, true, true, true, false, false, true, true, false, false, false, true, false] rfl rfl rfl rfl (two_of HT_.out (by kernel_rfl)) (by decide) (by decide) (fun K hK => ?_) (fun K hK => ?_)
             ·skip
              refine goes_ Try.func36 (by kernel_rfl) rfl #[.slice A64 y412.length c64] (by rfl) rfl rfl (by (try simp only [List.map_toArray, List.map_cons, List.map_nil]); first | done | rfl | (simp only [List.length_drop, List.length_take]; rfl)) ?_
              with_reducible refine (rf_value.calls kj1 _ _ y412 t416 _ ?side1 ?side2 A17.out).mono ?_
              (case side1 => repeat (first | exact (Kd.C_below HR415.out (by repeat (first | (with_reducible first | exact HB.out | apply bal | apply pbN | apply bd1 | refine bst ?_ GE401.out) | exact HB.out))) | (with_reducible refine Kd.C_alloc ?_ _) | (with_reducible refine Kd.C_drewN ?_ _) | (with_reducible refine Kd.C_drew ?_)))
              (case side2 => exact HC415.out)
              rintro e w' ⟨rfl, ⟨nd, rfl⟩⟩
              refine ⟨_, rfl, ?_⟩
              refine hK.out _ _ ⟨((HB.out.cell (World.block_lt_of_cell? w _ hw405_0)).trans hw405_0), ((HB.out.cell (World.block_lt_of_cell? w _ hw406_0)).trans hw406_0)⟩ (fun hHeld => ?_)
              clear hK K
              refine norm_ (a' := ?_) ?_ ?_
              rotate_left
              ·show Act.put _ (some 39) _ = _
               simp only [Act.put, List.setIfInBounds_toArray, List.set_cons_zero, List.set_cons_succ, i64_w, i32_w]
               rfl
              refine pure_ (i := 15) (N := some 40) (v := ?_) (a' := ?_) #[true, true, true, true, true, true, true, true, true, true, true, true, true, true, true, true, true, true, false, false, false, false, false] rfl rfl (any_of HT_.out (by kernel_rfl)) (fun _ _ _ h => h) (Or.inl ⟨by rfl, ?_⟩) ?_ ?_
              rotate_left
              ·intro w'
               go_simp
               with_reducible rfl
              rotate_left
              ·simp only [Act.put, List.setIfInBounds_toArray, List.set_cons_zero, List.set_cons_succ, i64_w, i32_w]
               rfl
              refine two_ (i := 18) (j := 21) (Ni := some 43) (Nj := some 4) #[true, true, true, true, true, true, true, true, true, true, true, true, true, true, true, true, true, true, true, false, false, false, false] #[true, true, true, true, true, true, true, true, true, true, true, true, true, true, true, true, true, true, false, false, false, true, false] rfl rfl rfl rfl (two_of HT_.out (by kernel_rfl)) (by decide) (by decide) (fun K hK => ?_) (fun K hK => ?_)
              ·skip
               refine goes_ Try.func36 (by kernel_rfl) rfl #[.slice A65 y417.length c65] (by rfl) rfl rfl (by (try simp only [List.map_toArray, List.map_cons, List.map_nil]); first | done | rfl | (simp only [List.length_drop, List.length_take]; rfl)) ?_
               with_reducible refine (rf_value.calls kj1 _ _ y417 t421 _ ?side1 ?side2 A19.out).mono ?_
               (case side1 => repeat (first | exact (Kd.C_below HR420.out (by repeat (first | (with_reducible first | exact HB.out | apply bal | apply pbN | apply bd1 | refine bst ?_ GE401.out) | exact HB.out))) | (with_reducible refine Kd.C_alloc ?_ _) | (with_reducible refine Kd.C_drewN ?_ _) | (with_reducible refine Kd.C_drew ?_)))
               (case side2 => exact HC420.out)
               rintro e w' ⟨rfl, ⟨nd, rfl⟩⟩
               refine ⟨_, rfl, ?_⟩
               refine hK.out _ _ ⟨((HB.out.cell (World.block_lt_of_cell? w _ hw405_0)).trans hw405_0), ((HB.out.cell (World.block_lt_of_cell? w _ hw406_0)).trans hw406_0)⟩ (fun hHeld => ?_)
               clear hK K
               refine norm_ (a' := ?_) ?_ ?_
               rotate_left
               ·show Act.put _ (some 43) _ = _
                simp only [Act.put, List.setIfInBounds_toArray, List.set_cons_zero, List.set_cons_succ, i64_w, i32_w]
                rfl
               refine pure_ (i := 19) (N := some 44) (v := ?_) (a' := ?_) #[true, true, true, true, true, true, true, true, true, true, true, true, true, true, true, true, true, true, true, true, false, false, false] rfl rfl (any_of HT_.out (by kernel_rfl)) (fun _ _ _ h => h) (Or.inl ⟨by rfl, ?_⟩) ?_ ?_
               rotate_left
               ·intro w'
                go_simp
                with_reducible rfl
               rotate_left
               ·simp only [Act.put, List.setIfInBounds_toArray, List.set_cons_zero, List.set_cons_succ, i64_w, i32_w]
                rfl
               refine pure_ (i := 20) (N := some 45) (v := ?_) (a' := ?_) #[true, true, true, true, true, true, true, true, true, true, true, true, true, true, true, true, true, true, true, true, true, false, false] rfl rfl (any_of HT_.out (by kernel_rfl)) (fun _ _ _ h => h) (Or.inl ⟨by rfl, ?_⟩) ?_ ?_
               rotate_left
               ·intro w'
                go_simp
                with_reducible rfl
               rotate_left
               ·simp only [Act.put, List.setIfInBounds_toArray, List.set_cons_zero, List.set_cons_succ, i64_w, i32_w]
                rfl
               refine one_ (i := 21) (N := some 4) #[true, true, true, true, true, true, true, true, true, true, true, true, true, true, true, true, true, true, true, true, true, true, false] rfl rfl (one_of HT_.out (by kernel_rfl)) (by decide) (fun K hK => ?_)
               refine box_step ?hg (N := 4) ?hd (cs := #[.int .i64 0, .int .i64 0, .int .i64 0, .int .u32 0, .int .i64 0]) (t := 24) ?hr ?_; (case hd => rfl); (case hg => rfl); (case hr => first | (go_simp; done) | (go_simp; rfl))
               intro gb422 hg w66 hbox hb
               have n0_ := Azz.mk (blk_below (g := gb401) (o := .cells #[.int .i64 0, .int .i64 0, .int .i64 0, .int .u32 0, .int .i64 0] 24 (0, 0)) (by (with_reducible repeat (first | refine kdN ?_ _ | refine kd1 ?_ | refine kal ?_ _)); exact BK401.out) hb)
               have n1_ := Azz.mk (below_step (by repeat (first | (with_reducible first | exact HB.out | apply bal | apply pbN | apply bd1 | refine bst ?_ GE401.out) | exact HB.out)) hb)
               have n2_ := Azz.mk (hbox)
               have n3_ := Azz.mk ((by rw [hg]; exact (below_size (by repeat (first | (with_reducible first | exact HB.out | apply bal | apply pbN | apply bd1 | refine bst ?_ GE401.out) | exact HB.out))) : w.heap.size ≤ gb422))
               have n4_ := Azz.mk ((by rw [hg]; exact (below_size (by repeat (first | (with_reducible first | exact HB.out | apply bal | apply pbN | apply bd1 | refine bst ?_ GE401.out) | exact HB.out))) : w.heap.size ≤ gb422))
               have n5_ := Azz.mk ((by rw [hg]; exact Nat.ne_of_lt (blk_lt (g := gb401) (o := .cells #[.int .i64 0, .int .i64 0, .int .i64 0, .int .u32 0, .int .i64 0] 24 (0, 0)) (by (with_reducible repeat (first | refine kdN ?_ _ | refine kd1 ?_ | refine kal ?_ _)); exact BK401.out)) : gb401 ≠ gb422))
               have n6_ := Azz.mk ((by rw [hg]; exact Nat.ne_of_gt (blk_lt (g := gb401) (o := .cells #[.int .i64 0, .int .i64 0, .int .i64 0, .int .u32 0, .int .i64 0] 24 (0, 0)) (by (with_reducible repeat (first | refine kdN ?_ _ | refine kd1 ?_ | refine kal ?_ _)); exact BK401.out)) : gb422 ≠ gb401))
               clear BK401
               clear HB
               have BK401 := n0_
               have HB := n1_
               have BK422 := n2_
               have GW422 := n3_
               have GE422 := n4_
               have NB401_422 := n5_
               have NB422_401 := n6_
               clear n0_ n1_ n2_ n3_ n4_ n5_ n6_
               clear hb hbox hg
               refine hK.out _ _ ⟨((HB.out.cell (World.block_lt_of_cell? w _ hw405_0)).trans hw405_0), ((HB.out.cell (World.block_lt_of_cell? w _ hw406_0)).trans hw406_0)⟩ (fun hHeld => ?_)
               clear hK K
               refine norm_ (a' := ?_) ?_ ?_
               rotate_left
               ·show Act.put _ (some 4) _ = _
                simp only [Act.put, List.setIfInBounds_toArray, List.set_cons_zero, List.set_cons_succ, i64_w, i32_w]
                rfl
               exact norm_ (by first | (simp only [putAll, Act.put, List.setIfInBounds_toArray, List.set_cons_zero, List.set_cons_succ]; done) | (simp only [putAll, Act.put, List.setIfInBounds_toArray, List.set_cons_zero, List.set_cons_succ, IntKind.wrap_u32, IntKind.wrap_u8]; done)) (hCont (gb422) _ ⟨hHeld, (by (with_reducible repeat (first | refine kdN ?_ _ | refine kd1 ?_ | refine kal ?_ _)); exact BK401.out), (by (with_reducible repeat (first | refine kdN ?_ _ | refine kd1 ?_ | refine kal ?_ _)); exact BK422.out), GW422.out, GE422.out, NB401_422.out, NB422_401.out, (by repeat (first | (with_reducible first | exact HB.out | apply bal | apply pbN | apply bd1 | refine bst ?_ GE401.out | refine bst ?_ GE422.out) | exact HB.out))⟩)
              ·skip
               refine box_step ?hg (N := 4) ?hd (cs := #[.int .i64 0, .int .i64 0, .int .i64 0, .int .u32 0, .int .i64 0]) (t := 24) ?hr ?_; (case hd => rfl); (case hg => rfl); (case hr => first | (go_simp; done) | (go_simp; rfl))
               intro gb422 hg w66 hbox hb
               have n0_ := Azz.mk (blk_below (g := gb401) (o := .cells #[.int .i64 0, .int .i64 0, .int .i64 0, .int .u32 0, .int .i64 0] 24 (0, 0)) (by (with_reducible repeat (first | refine kdN ?_ _ | refine kd1 ?_ | refine kal ?_ _)); exact BK401.out) hb)
               have n1_ := Azz.mk (below_step (by repeat (first | (with_reducible first | exact HB.out | apply bal | apply pbN | apply bd1 | refine bst ?_ GE401.out) | exact HB.out)) hb)
               have n2_ := Azz.mk (hbox)
               have n3_ := Azz.mk ((by rw [hg]; exact (below_size (by repeat (first | (with_reducible first | exact HB.out | apply bal | apply pbN | apply bd1 | refine bst ?_ GE401.out) | exact HB.out))) : w.heap.size ≤ gb422))
               have n4_ := Azz.mk ((by rw [hg]; exact (below_size (by repeat (first | (with_reducible first | exact HB.out | apply bal | apply pbN | apply bd1 | refine bst ?_ GE401.out) | exact HB.out))) : w.heap.size ≤ gb422))
               have n5_ := Azz.mk ((by rw [hg]; exact Nat.ne_of_lt (blk_lt (g := gb401) (o := .cells #[.int .i64 0, .int .i64 0, .int .i64 0, .int .u32 0, .int .i64 0] 24 (0, 0)) (by (with_reducible repeat (first | refine kdN ?_ _ | refine kd1 ?_ | refine kal ?_ _)); exact BK401.out)) : gb401 ≠ gb422))
               have n6_ := Azz.mk ((by rw [hg]; exact Nat.ne_of_gt (blk_lt (g := gb401) (o := .cells #[.int .i64 0, .int .i64 0, .int .i64 0, .int .u32 0, .int .i64 0] 24 (0, 0)) (by (with_reducible repeat (first | refine kdN ?_ _ | refine kd1 ?_ | refine kal ?_ _)); exact BK401.out)) : gb422 ≠ gb401))
               clear BK401
               clear HB
               have BK401 := n0_
               have HB := n1_
               have BK422 := n2_
               have GW422 := n3_
               have GE422 := n4_
               have NB401_422 := n5_
               have NB422_401 := n6_
               clear n0_ n1_ n2_ n3_ n4_ n5_ n6_
               clear hb hbox hg
               refine hK.out _ _ ⟨((HB.out.cell (World.block_lt_of_cell? w _ hw405_0)).trans hw405_0), ((HB.out.cell (World.block_lt_of_cell? w _ hw406_0)).trans hw406_0)⟩ (fun hHeld => ?_)
               clear hK K
               refine norm_ (a' := ?_) ?_ ?_
               rotate_left
               ·show Act.put _ (some 4) _ = _
                simp only [Act.put, List.setIfInBounds_toArray, List.set_cons_zero, List.set_cons_succ, i64_w, i32_w]
                rfl
               refine one_ (i := 18) (N := some 43) #[true, true, true, true, true, true, true, true, true, true, true, true, true, true, true, true, true, true, true, false, false, true, false] rfl rfl (one_of HT_.out (by kernel_rfl)) (by decide) (fun K hK => ?_)
               refine goes_ Try.func36 (by kernel_rfl) rfl #[.slice A65 y417.length c65] (by rfl) rfl rfl (by (try simp only [List.map_toArray, List.map_cons, List.map_nil]); first | done | rfl | (simp only [List.length_drop, List.length_take]; rfl)) ?_
               with_reducible refine (rf_value.calls kj1 _ _ y417 t421 _ ?side1 ?side2 A19.out).mono ?_
               (case side1 => repeat (first | exact (Kd.C_below HR420.out HB.out) | (with_reducible refine Kd.C_alloc ?_ _) | (with_reducible refine Kd.C_drewN ?_ _) | (with_reducible refine Kd.C_drew ?_)))
               (case side2 => exact HC420.out)
               rintro e w' ⟨rfl, ⟨nd, rfl⟩⟩
               refine ⟨_, rfl, ?_⟩
               refine hK.out _ _ ⟨((HB.out.cell (World.block_lt_of_cell? w _ hw405_0)).trans hw405_0), ((HB.out.cell (World.block_lt_of_cell? w _ hw406_0)).trans hw406_0)⟩ (fun hHeld => ?_)
               clear hK K
               refine norm_ (a' := ?_) ?_ ?_
               rotate_left
               ·show Act.put _ (some 43) _ = _
                simp only [Act.put, List.setIfInBounds_toArray, List.set_cons_zero, List.set_cons_succ, i64_w, i32_w]
                rfl
               refine pure_ (i := 19) (N := some 44) (v := ?_) (a' := ?_) #[true, true, true, true, true, true, true, true, true, true, true, true, true, true, true, true, true, true, true, true, false, true, false] rfl rfl (any_of HT_.out (by kernel_rfl)) (fun _ _ _ h => h) (Or.inl ⟨by rfl, ?_⟩) ?_ ?_
               rotate_left
               ·intro w'
                go_simp
                with_reducible rfl
               rotate_left
               ·simp only [Act.put, List.setIfInBounds_toArray, List.set_cons_zero, List.set_cons_succ, i64_w, i32_w]
                rfl
               refine pure_ (i := 20) (N := some 45) (v := ?_) (a' := ?_) #[true, true, true, true, true, true, true, true, true, true, true, true, true, true, true, true, true, true, true, true, true, true, false] rfl rfl (any_of HT_.out (by kernel_rfl)) (fun _ _ _ h => h) (Or.inl ⟨by rfl, ?_⟩) ?_ ?_
               rotate_left
               ·intro w'
                go_simp
                with_reducible rfl
               rotate_left
               ·simp only [Act.put, List.setIfInBounds_toArray, List.set_cons_zero, List.set_cons_succ, i64_w, i32_w]
                rfl
               exact norm_ (by first | (simp only [putAll, Act.put, List.setIfInBounds_toArray, List.set_cons_zero, List.set_cons_succ]; done) | (simp only [putAll, Act.put, List.setIfInBounds_toArray, List.set_cons_zero, List.set_cons_succ, IntKind.wrap_u32, IntKind.wrap_u8]; done)) (hCont (gb422) _ ⟨hHeld, (by (with_reducible repeat (first | refine kdN ?_ _ | refine kd1 ?_ | refine kal ?_ _)); exact BK401.out), (by (with_reducible repeat (first | refine kdN ?_ _ | refine kd1 ?_ | refine kal ?_ _)); exact BK422.out), GW422.out, GE422.out, NB401_422.out, NB422_401.out, (by repeat (first | (with_reducible first | exact HB.out | apply bal | apply pbN | apply bd1 | refine bst ?_ GE401.out | refine bst ?_ GE422.out) | exact HB.out))⟩)
             ·skip
              refine box_step ?hg (N := 4) ?hd (cs := #[.int .i64 0, .int .i64 0, .int .i64 0, .int .u32 0, .int .i64 0]) (t := 24) ?hr ?_; (case hd => rfl); (case hg => rfl); (case hr => first | (go_simp; done) | (go_simp; rfl))
              intro gb422 hg w66 hbox hb
              have n0_ := Azz.mk (blk_below (g := gb401) (o := .cells #[.int .i64 0, .int .i64 0, .int .i64 0, .int .u32 0, .int .i64 0] 24 (0, 0)) (by (with_reducible repeat (first | refine kdN ?_ _ | refine kd1 ?_ | refine kal ?_ _)); exact BK401.out) hb)
              have n1_ := Azz.mk (below_step (by repeat (first | (with_reducible first | exact HB.out | apply bal | apply pbN | apply bd1 | refine bst ?_ GE401.out) | exact HB.out)) hb)
              have n2_ := Azz.mk (hbox)
              have n3_ := Azz.mk ((by rw [hg]; exact (below_size (by repeat (first | (with_reducible first | exact HB.out | apply bal | apply pbN | apply bd1 | refine bst ?_ GE401.out) | exact HB.out))) : w.heap.size ≤ gb422))
              have n4_ := Azz.mk ((by rw [hg]; exact (below_size (by repeat (first | (with_reducible first | exact HB.out | apply bal | apply pbN | apply bd1 | refine bst ?_ GE401.out) | exact HB.out))) : w.heap.size ≤ gb422))
              have n5_ := Azz.mk ((by rw [hg]; exact Nat.ne_of_lt (blk_lt (g := gb401) (o := .cells #[.int .i64 0, .int .i64 0, .int .i64 0, .int .u32 0, .int .i64 0] 24 (0, 0)) (by (with_reducible repeat (first | refine kdN ?_ _ | refine kd1 ?_ | refine kal ?_ _)); exact BK401.out)) : gb401 ≠ gb422))
              have n6_ := Azz.mk ((by rw [hg]; exact Nat.ne_of_gt (blk_lt (g := gb401) (o := .cells #[.int .i64 0, .int .i64 0, .int .i64 0, .int .u32 0, .int .i64 0] 24 (0, 0)) (by (with_reducible repeat (first | refine kdN ?_ _ | refine kd1 ?_ | refine kal ?_ _)); exact BK401.out)) : gb422 ≠ gb401))
              clear BK401
              clear HB
              have BK401 := n0_
              have HB := n1_
              have BK422 := n2_
              have GW422 := n3_
              have GE422 := n4_
              have NB401_422 := n5_
              have NB422_401 := n6_
              clear n0_ n1_ n2_ n3_ n4_ n5_ n6_
              clear hb hbox hg
              refine hK.out _ _ ⟨((HB.out.cell (World.block_lt_of_cell? w _ hw405_0)).trans hw405_0), ((HB.out.cell (World.block_lt_of_cell? w _ hw406_0)).trans hw406_0)⟩ (fun hHeld => ?_)
              clear hK K
              refine norm_ (a' := ?_) ?_ ?_
              rotate_left
              ·show Act.put _ (some 4) _ = _
               simp only [Act.put, List.setIfInBounds_toArray, List.set_cons_zero, List.set_cons_succ, i64_w, i32_w]
               rfl
              refine one_ (i := 14) (N := some 39) #[true, true, true, true, true, true, true, true, true, true, true, true, true, true, true, false, true, true, false, false, false, true, false] rfl rfl (one_of HT_.out (by kernel_rfl)) (by decide) (fun K hK => ?_)
              refine goes_ Try.func36 (by kernel_rfl) rfl #[.slice A64 y412.length c64] (by rfl) rfl rfl (by (try simp only [List.map_toArray, List.map_cons, List.map_nil]); first | done | rfl | (simp only [List.length_drop, List.length_take]; rfl)) ?_
              with_reducible refine (rf_value.calls kj1 _ _ y412 t416 _ ?side1 ?side2 A17.out).mono ?_
              (case side1 => repeat (first | exact (Kd.C_below HR415.out HB.out) | (with_reducible refine Kd.C_alloc ?_ _) | (with_reducible refine Kd.C_drewN ?_ _) | (with_reducible refine Kd.C_drew ?_)))
              (case side2 => exact HC415.out)
              rintro e w' ⟨rfl, ⟨nd, rfl⟩⟩
              refine ⟨_, rfl, ?_⟩
              refine hK.out _ _ ⟨((HB.out.cell (World.block_lt_of_cell? w _ hw405_0)).trans hw405_0), ((HB.out.cell (World.block_lt_of_cell? w _ hw406_0)).trans hw406_0)⟩ (fun hHeld => ?_)
              clear hK K
              refine norm_ (a' := ?_) ?_ ?_
              rotate_left
              ·show Act.put _ (some 39) _ = _
               simp only [Act.put, List.setIfInBounds_toArray, List.set_cons_zero, List.set_cons_succ, i64_w, i32_w]
               rfl
              refine pure_ (i := 15) (N := some 40) (v := ?_) (a' := ?_) #[true, true, true, true, true, true, true, true, true, true, true, true, true, true, true, true, true, true, false, false, false, true, false] rfl rfl (any_of HT_.out (by kernel_rfl)) (fun _ _ _ h => h) (Or.inl ⟨by rfl, ?_⟩) ?_ ?_
              rotate_left
              ·intro w'
               go_simp
               with_reducible rfl
              rotate_left
              ·simp only [Act.put, List.setIfInBounds_toArray, List.set_cons_zero, List.set_cons_succ, i64_w, i32_w]
               rfl
              refine one_ (i := 18) (N := some 43) #[true, true, true, true, true, true, true, true, true, true, true, true, true, true, true, true, true, true, true, false, false, true, false] rfl rfl (one_of HT_.out (by kernel_rfl)) (by decide) (fun K hK => ?_)
              refine goes_ Try.func36 (by kernel_rfl) rfl #[.slice A65 y417.length c65] (by rfl) rfl rfl (by (try simp only [List.map_toArray, List.map_cons, List.map_nil]); first | done | rfl | (simp only [List.length_drop, List.length_take]; rfl)) ?_
              with_reducible refine (rf_value.calls kj1 _ _ y417 t421 _ ?side1 ?side2 A19.out).mono ?_
              (case side1 => repeat (first | exact (Kd.C_below HR420.out (by repeat (first | (with_reducible first | exact HB.out | apply bal | apply pbN | apply bd1 | refine bst ?_ GE401.out | refine bst ?_ GE422.out) | exact HB.out))) | (with_reducible refine Kd.C_alloc ?_ _) | (with_reducible refine Kd.C_drewN ?_ _) | (with_reducible refine Kd.C_drew ?_)))
              (case side2 => exact HC420.out)
              rintro e w' ⟨rfl, ⟨nd, rfl⟩⟩
              refine ⟨_, rfl, ?_⟩
              refine hK.out _ _ ⟨((HB.out.cell (World.block_lt_of_cell? w _ hw405_0)).trans hw405_0), ((HB.out.cell (World.block_lt_of_cell? w _ hw406_0)).trans hw406_0)⟩ (fun hHeld => ?_)
              clear hK K
              refine norm_ (a' := ?_) ?_ ?_
              rotate_left
              ·show Act.put _ (some 43) _ = _
               simp only [Act.put, List.setIfInBounds_toArray, List.set_cons_zero, List.set_cons_succ, i64_w, i32_w]
               rfl
              refine pure_ (i := 19) (N := some 44) (v := ?_) (a' := ?_) #[true, true, true, true, true, true, true, true, true, true, true, true, true, true, true, true, true, true, true, true, false, true, false] rfl rfl (any_of HT_.out (by kernel_rfl)) (fun _ _ _ h => h) (Or.inl ⟨by rfl, ?_⟩) ?_ ?_
              rotate_left
              ·intro w'
               go_simp
               with_reducible rfl
              rotate_left
              ·simp only [Act.put, List.setIfInBounds_toArray, List.set_cons_zero, List.set_cons_succ, i64_w, i32_w]
               rfl
              refine pure_ (i := 20) (N := some 45) (v := ?_) (a' := ?_) #[true, true, true, true, true, true, true, true, true, true, true, true, true, true, true, true, true, true, true, true, true, true, false] rfl rfl (any_of HT_.out (by kernel_rfl)) (fun _ _ _ h => h) (Or.inl ⟨by rfl, ?_⟩) ?_ ?_
              rotate_left
              ·intro w'
               go_simp
               with_reducible rfl
              rotate_left
              ·simp only [Act.put, List.setIfInBounds_toArray, List.set_cons_zero, List.set_cons_succ, i64_w, i32_w]
               rfl
              exact norm_ (by first | (simp only [putAll, Act.put, List.setIfInBounds_toArray, List.set_cons_zero, List.set_cons_succ]; done) | (simp only [putAll, Act.put, List.setIfInBounds_toArray, List.set_cons_zero, List.set_cons_succ, IntKind.wrap_u32, IntKind.wrap_u8]; done)) (hCont (gb422) _ ⟨hHeld, (by (with_reducible repeat (first | refine kdN ?_ _ | refine kd1 ?_ | refine kal ?_ _)); exact BK401.out), (by (with_reducible repeat (first | refine kdN ?_ _ | refine kd1 ?_ | refine kal ?_ _)); exact BK422.out), GW422.out, GE422.out, NB401_422.out, NB422_401.out, (by repeat (first | (with_reducible first | exact HB.out | apply bal | apply pbN | apply bd1 | refine bst ?_ GE401.out | refine bst ?_ GE422.out) | exact HB.out))⟩)
            ·skip
             refine box_step ?hg (N := 4) ?hd (cs := #[.int .i64 0, .int .i64 0, .int .i64 0, .int .u32 0, .int .i64 0]) (t := 24) ?hr ?_; (case hd => rfl); (case hg => rfl); (case hr => first | (go_simp; done) | (go_simp; rfl))
             intro gb422 hg w66 hbox hb
             have n0_ := Azz.mk (blk_below (g := gb401) (o := .cells #[.int .i64 0, .int .i64 0, .int .i64 0, .int .u32 0, .int .i64 0] 24 (0, 0)) (by (with_reducible repeat (first | refine kdN ?_ _ | refine kd1 ?_ | refine kal ?_ _)); exact BK401.out) hb)
             have n1_ := Azz.mk (below_step (by repeat (first | (with_reducible first | exact HB.out | apply bal | apply pbN | apply bd1 | refine bst ?_ GE401.out) | exact HB.out)) hb)
             have n2_ := Azz.mk (hbox)
             have n3_ := Azz.mk ((by rw [hg]; exact (below_size (by repeat (first | (with_reducible first | exact HB.out | apply bal | apply pbN | apply bd1 | refine bst ?_ GE401.out) | exact HB.out))) : w.heap.size ≤ gb422))
             have n4_ := Azz.mk ((by rw [hg]; exact (below_size (by repeat (first | (with_reducible first | exact HB.out | apply bal | apply pbN | apply bd1 | refine bst ?_ GE401.out) | exact HB.out))) : w.heap.size ≤ gb422))
             have n5_ := Azz.mk ((by rw [hg]; exact Nat.ne_of_lt (blk_lt (g := gb401) (o := .cells #[.int .i64 0, .int .i64 0, .int .i64 0, .int .u32 0, .int .i64 0] 24 (0, 0)) (by (with_reducible repeat (first | refine kdN ?_ _ | refine kd1 ?_ | refine kal ?_ _)); exact BK401.out)) : gb401 ≠ gb422))
             have n6_ := Azz.mk ((by rw [hg]; exact Nat.ne_of_gt (blk_lt (g := gb401) (o := .cells #[.int .i64 0, .int .i64 0, .int .i64 0, .int .u32 0, .int .i64 0] 24 (0, 0)) (by (with_reducible repeat (first | refine kdN ?_ _ | refine kd1 ?_ | refine kal ?_ _)); exact BK401.out)) : gb422 ≠ gb401))
             clear BK401
             clear HB
             have BK401 := n0_
             have HB := n1_
             have BK422 := n2_
             have GW422 := n3_
             have GE422 := n4_
             have NB401_422 := n5_
             have NB422_401 := n6_
             clear n0_ n1_ n2_ n3_ n4_ n5_ n6_
             clear hb hbox hg
             refine hK.out _ _ ⟨((HB.out.cell (World.block_lt_of_cell? w _ hw405_0)).trans hw405_0), ((HB.out.cell (World.block_lt_of_cell? w _ hw406_0)).trans hw406_0)⟩ (fun hHeld => ?_)
             clear hK K
             refine norm_ (a' := ?_) ?_ ?_
             rotate_left
             ·show Act.put _ (some 4) _ = _
              simp only [Act.put, List.setIfInBounds_toArray, List.set_cons_zero, List.set_cons_succ, i64_w, i32_w]
              rfl
             refine one_ (i := 10) (N := some 35) #[true, true, true, true, true, true, true, true, true, true, true, false, true, true, false, false, true, true, false, false, false, true, false] rfl rfl (one_of HT_.out (by kernel_rfl)) (by decide) (fun K hK => ?_)
             refine goes_ Try.func36 (by kernel_rfl) rfl #[.slice A63 y407.length c63] (by rfl) rfl rfl (by (try simp only [List.map_toArray, List.map_cons, List.map_nil]); first | done | rfl | (simp only [List.length_drop, List.length_take]; rfl)) ?_
             with_reducible refine (rf_value.calls kj1 _ _ y407 t411 _ ?side1 ?side2 A15.out).mono ?_
             (case side1 => repeat (first | exact (Kd.C_below HR410.out HB.out) | (with_reducible refine Kd.C_alloc ?_ _) | (with_reducible refine Kd.C_drewN ?_ _) | (with_reducible refine Kd.C_drew ?_)))
             (case side2 => exact HC410.out)
             rintro e w' ⟨rfl, ⟨nd, rfl⟩⟩
             refine ⟨_, rfl, ?_⟩
             refine hK.out _ _ ⟨((HB.out.cell (World.block_lt_of_cell? w _ hw405_0)).trans hw405_0), ((HB.out.cell (World.block_lt_of_cell? w _ hw406_0)).trans hw406_0)⟩ (fun hHeld => ?_)
             clear hK K
             refine norm_ (a' := ?_) ?_ ?_
             rotate_left
             ·show Act.put _ (some 35) _ = _
              simp only [Act.put, List.setIfInBounds_toArray, List.set_cons_zero, List.set_cons_succ, i64_w, i32_w]
              rfl
             refine pure_ (i := 11) (N := some 36) (v := ?_) (a' := ?_) #[true, true, true, true, true, true, true, true, true, true, true, true, true, true, false, false, true, true, false, false, false, true, false] rfl rfl (any_of HT_.out (by kernel_rfl)) (fun _ _ _ h => h) (Or.inl ⟨by rfl, ?_⟩) ?_ ?_
             rotate_left
             ·intro w'
              go_simp
              with_reducible rfl
             rotate_left
             ·simp only [Act.put, List.setIfInBounds_toArray, List.set_cons_zero, List.set_cons_succ, i64_w, i32_w]
              rfl
             refine one_ (i := 14) (N := some 39) #[true, true, true, true, true, true, true, true, true, true, true, true, true, true, true, false, true, true, false, false, false, true, false] rfl rfl (one_of HT_.out (by kernel_rfl)) (by decide) (fun K hK => ?_)
             refine goes_ Try.func36 (by kernel_rfl) rfl #[.slice A64 y412.length c64] (by rfl) rfl rfl (by (try simp only [List.map_toArray, List.map_cons, List.map_nil]); first | done | rfl | (simp only [List.length_drop, List.length_take]; rfl)) ?_
             with_reducible refine (rf_value.calls kj1 _ _ y412 t416 _ ?side1 ?side2 A17.out).mono ?_
             (case side1 => repeat (first | exact (Kd.C_below HR415.out (by repeat (first | (with_reducible first | exact HB.out | apply bal | apply pbN | apply bd1 | refine bst ?_ GE401.out | refine bst ?_ GE422.out) | exact HB.out))) | (with_reducible refine Kd.C_alloc ?_ _) | (with_reducible refine Kd.C_drewN ?_ _) | (with_reducible refine Kd.C_drew ?_)))
             (case side2 => exact HC415.out)
             rintro e w' ⟨rfl, ⟨nd, rfl⟩⟩
             refine ⟨_, rfl, ?_⟩
             refine hK.out _ _ ⟨((HB.out.cell (World.block_lt_of_cell? w _ hw405_0)).trans hw405_0), ((HB.out.cell (World.block_lt_of_cell? w _ hw406_0)).trans hw406_0)⟩ (fun hHeld => ?_)
             clear hK K
             refine norm_ (a' := ?_) ?_ ?_
             rotate_left
             ·show Act.put _ (some 39) _ = _
              simp only [Act.put, List.setIfInBounds_toArray, List.set_cons_zero, List.set_cons_succ, i64_w, i32_w]
              rfl
             refine pure_ (i := 15) (N := some 40) (v := ?_) (a' := ?_) #[true, true, true, true, true, true, true, true, true, true, true, true, true, true, true, true, true, true, false, false, false, true, false] rfl rfl (any_of HT_.out (by kernel_rfl)) (fun _ _ _ h => h) (Or.inl ⟨by rfl, ?_⟩) ?_ ?_
             rotate_left
             ·intro w'
              go_simp
              with_reducible rfl
             rotate_left
             ·simp only [Act.put, List.setIfInBounds_toArray, List.set_cons_zero, List.set_cons_succ, i64_w, i32_w]
              rfl
             refine one_ (i := 18) (N := some 43) #[true, true, true, true, true, true, true, true, true, true, true, true, true, true, true, true, true, true, true, false, false, true, false] rfl rfl (one_of HT_.out (by kernel_rfl)) (by decide) (fun K hK => ?_)
             refine goes_ Try.func36 (by kernel_rfl) rfl #[.slice A65 y417.length c65] (by rfl) rfl rfl (by (try simp only [List.map_toArray, List.map_cons, List.map_nil]); first | done | rfl | (simp only [List.length_drop, List.length_take]; rfl)) ?_
             with_reducible refine (rf_value.calls kj1 _ _ y417 t421 _ ?side1 ?side2 A19.out).mono ?_
             (case side1 => repeat (first | exact (Kd.C_below HR420.out (by repeat (first | (with_reducible first | exact HB.out | apply bal | apply pbN | apply bd1 | refine bst ?_ GE401.out | refine bst ?_ GE422.out) | exact HB.out))) | (with_reducible refine Kd.C_alloc ?_ _) | (with_reducible refine Kd.C_drewN ?_ _) | (with_reducible refine Kd.C_drew ?_)))
             (case side2 => exact HC420.out)
             rintro e w' ⟨rfl, ⟨nd, rfl⟩⟩
             refine ⟨_, rfl, ?_⟩
             refine hK.out _ _ ⟨((HB.out.cell (World.block_lt_of_cell? w _ hw405_0)).trans hw405_0), ((HB.out.cell (World.block_lt_of_cell? w _ hw406_0)).trans hw406_0)⟩ (fun hHeld => ?_)
             clear hK K
             refine norm_ (a' := ?_) ?_ ?_
             rotate_left
             ·show Act.put _ (some 43) _ = _
              simp only [Act.put, List.setIfInBounds_toArray, List.set_cons_zero, List.set_cons_succ, i64_w, i32_w]
              rfl
             refine pure_ (i := 19) (N := some 44) (v := ?_) (a' := ?_) #[true, true, true, true, true, true, true, true, true, true, true, true, true, true, true, true, true, true, true, true, false, true, false] rfl rfl (any_of HT_.out (by kernel_rfl)) (fun _ _ _ h => h) (Or.inl ⟨by rfl, ?_⟩) ?_ ?_
             rotate_left
             ·intro w'
              go_simp
              with_reducible rfl
             rotate_left
             ·simp only [Act.put, List.setIfInBounds_toArray, List.set_cons_zero, List.set_cons_succ, i64_w, i32_w]
              rfl
             refine pure_ (i := 20) (N := some 45) (v := ?_) (a' := ?_) #[true, true, true, true, true, true, true, true, true, true, true, true, true, true, true, true, true, true, true, true, true, true, false] rfl rfl (any_of HT_.out (by kernel_rfl)) (fun _ _ _ h => h) (Or.inl ⟨by rfl, ?_⟩) ?_ ?_
             rotate_left
             ·intro w'
              go_simp
              with_reducible rfl
             rotate_left
             ·simp only [Act.put, List.setIfInBounds_toArray, List.set_cons_zero, List.set_cons_succ, i64_w, i32_w]
              rfl
             exact norm_ (by first | (simp only [putAll, Act.put, List.setIfInBounds_toArray, List.set_cons_zero, List.set_cons_succ]; done) | (simp only [putAll, Act.put, List.setIfInBounds_toArray, List.set_cons_zero, List.set_cons_succ, IntKind.wrap_u32, IntKind.wrap_u8]; done)) (hCont (gb422) _ ⟨hHeld, (by (with_reducible repeat (first | refine kdN ?_ _ | refine kd1 ?_ | refine kal ?_ _)); exact BK401.out), (by (with_reducible repeat (first | refine kdN ?_ _ | refine kd1 ?_ | refine kal ?_ _)); exact BK422.out), GW422.out, GE422.out, NB401_422.out, NB422_401.out, (by repeat (first | (with_reducible first | exact HB.out | apply bal | apply pbN | apply bd1 | refine bst ?_ GE401.out | refine bst ?_ GE422.out) | exact HB.out))⟩)
           rintro gb422 w67 ⟨hS_, h0_, h1_, h2_, h3_, h4_, h5_, h6_⟩
           have n0_ : Azz (w67.heap[gb401]? = some (.cells #[.int .i64 0, .int .i64 0, .int .i64 0, .int .u32 0, .int .i64 0] 24 (0, 0))) := ⟨h0_⟩
           have n1_ : Azz (w67.heap[gb422]? = some (.cells #[.int .i64 0, .int .i64 0, .int .i64 0, .int .u32 0, .int .i64 0] 24 (0, 0))) := ⟨h1_⟩
           have n2_ : Azz (w.heap.size ≤ gb422) := ⟨h2_⟩
           have n3_ : Azz (w.heap.size ≤ gb422) := ⟨h3_⟩
           have n4_ : Azz (gb401 ≠ gb422) := ⟨h4_⟩
           have n5_ : Azz (gb422 ≠ gb401) := ⟨h5_⟩
           have n6_ : Azz (Below w.heap.size w w67) := ⟨h6_⟩
           clear BK401
           clear HB
           clear h0_ h1_ h2_ h3_ h4_ h5_ h6_
           have BK401 := n0_
           have BK422 := n1_
           have GW422 := n2_
           have GE422 := n3_
           have NB401_422 := n4_
           have NB422_401 := n5_
           have HB := n6_
           clear n0_ n1_ n2_ n3_ n4_ n5_ n6_
           have hHeld : w67.cell? ⟨ad405.block, ad405.off + 2, none⟩ = some (.int .u8 (rd l0 2)) ∧ w67.cell? ⟨ad405.block, ad405.off + 3, none⟩ = some (.int .u8 (rd l0 3)) := hS_
           refine norm_ (a' := ?_) ?_ ?_
           rotate_left
           ·simp only [putAll, Act.put, List.setIfInBounds_toArray, List.set_cons_zero, List.set_cons_succ]
            rfl
           refine one_ (i := 22) (N := none) #[true, true, true, true, true, true, true, true, true, true, true, true, true, true, true, true, true, true, true, true, true, true, true] rfl rfl (one_of HT_.out (by kernel_rfl)) (by decide) (fun K hK => ?_)
           have hs68 : World.cell? _ ⟨gb422, 0, none⟩ = some (.int .i64 0) := (kcl BK422.out 0).trans rfl
           have hfs68 := kfz BK422.out 0
           have hns68_0 := NB401_422.out
           have hms68_0 := NB422_401.out
           have hs69 : World.cell? _ ⟨gb422, 1, none⟩ = some (.int .i64 0) := (kcl BK422.out 1).trans rfl
           have hfs69 := kfz BK422.out 1
           have hns69_0 := NB401_422.out
           have hms69_0 := NB422_401.out
           have hs70 : World.cell? _ ⟨gb422, 2, none⟩ = some (.int .i64 0) := (kcl BK422.out 2).trans rfl
           have hfs70 := kfz BK422.out 2
           have hns70_0 := NB401_422.out
           have hms70_0 := NB422_401.out
           have hs71 : World.cell? _ ⟨gb422, 3, none⟩ = some (.int .u32 0) := (kcl BK422.out 3).trans rfl
           have hfs71 := kfz BK422.out 3
           have hns71_0 := NB401_422.out
           have hms71_0 := NB422_401.out
           have hs72 : World.cell? _ ⟨gb422, 4, none⟩ = some (.int .i64 0) := (kcl BK422.out 4).trans rfl
           have hfs72 := kfz BK422.out 4
           have hns72_0 := NB401_422.out
           have hms72_0 := NB422_401.out
           refine skip_ (w1 := ?_) (by rfl) rfl ?_ ?_
           rotate_left
           ·go_simp
            rfl
           refine hK.out _ _ ⟨((cell_far (p := ⟨gb422, _, none⟩) (cell_ne hw405_0 GW422.out) _).trans (((cell_far (p := ⟨gb422, _, none⟩) (cell_ne hw405_0 GW422.out) _).trans (((cell_far (p := ⟨gb422, _, none⟩) (cell_ne hw405_0 GW422.out) _).trans (((cell_far (p := ⟨gb422, _, none⟩) (cell_ne hw405_0 GW422.out) _).trans (((cell_far (p := ⟨gb422, _, none⟩) (cell_ne hw405_0 GW422.out) _).trans (hHeld.1)))))))))), ((cell_far (p := ⟨gb422, _, none⟩) (cell_ne hw406_0 GW422.out) _).trans (((cell_far (p := ⟨gb422, _, none⟩) (cell_ne hw406_0 GW422.out) _).trans (((cell_far (p := ⟨gb422, _, none⟩) (cell_ne hw406_0 GW422.out) _).trans (((cell_far (p := ⟨gb422, _, none⟩) (cell_ne hw406_0 GW422.out) _).trans (((cell_far (p := ⟨gb422, _, none⟩) (cell_ne hw406_0 GW422.out) _).trans (hHeld.2))))))))))⟩ (fun hHeld => ?_)
           clear hK K
           refine done_ (done_of HT_.out (by kernel_rfl)) ?_
           have hnb73 := NB422_401.out
           have hnc73 := NB401_422.out
           have hcz74_0 : World.cell? _ ⟨gb422, 0, none⟩ = some (.int .i64 0) := (kcl BK422.out 0).trans rfl
           have hcz74_1 : World.cell? _ ⟨gb422, 1, none⟩ = some (.int .i64 0) := (kcl BK422.out 1).trans rfl
           have hcz74_2 : World.cell? _ ⟨gb422, 2, none⟩ = some (.int .i64 0) := (kcl BK422.out 2).trans rfl
           have hcz74_3 : World.cell? _ ⟨gb422, 3, none⟩ = some (.int .u32 0) := (kcl BK422.out 3).trans rfl
           have hcz74_4 : World.cell? _ ⟨gb422, 4, none⟩ = some (.int .i64 0) := (kcl BK422.out 4).trans rfl
           have hfz74_0 := kfz BK422.out 0
           have hfz74_1 := kfz BK422.out 1
           have hfz74_2 := kfz BK422.out 2
           have hfz74_3 := kfz BK422.out 3
           have hfz74_4 := kfz BK422.out 4
           try go_wp2_with (first | ((with_reducible refine gate_callee (f := 13) rfl ?_); refine goesL_ (some 47) rfl rfl Try.func13 (by kernel_rfl) rfl #[.agg #[.int .i64 (wrap64 (rd l0 2)), .int .i64 (wrap64 (rd l0 3)), .int .i64 (wrap64 (t411)), .int .u32 ((t416) % 4294967296), .int .i64 (wrap64 (t421))]] rfl (by (try simp only [List.map_toArray, List.map_cons, List.map_nil]); first | done | rfl | (simp only [List.length_drop, List.length_take]; rfl)) ?_; (with_reducible refine (rf_RightControl.calls (wrap64 (rd l0 2)) (wrap64 (rd l0 3)) (wrap64 (t411)) ((t416) % 4294967296) (wrap64 (t421)) false _ A20.out).mono ?_); rintro e w75 ⟨rfl, hb⟩; refine ⟨_, rfl, ?_⟩; have n0_ := Azz.mk (blk_below (g := gb401) (o := .cells #[.int .i64 0, .int .i64 0, .int .i64 0, .int .u32 0, .int .i64 0] 24 (0, 0)) (by (with_reducible repeat (first | refine kdN ?_ _ | refine kd1 ?_ | refine kal ?_ _)); refine blk_far ?_ NB401_422.out _; (with_reducible repeat (first | refine kdN ?_ _ | refine kd1 ?_ | refine kal ?_ _)); refine blk_far ?_ NB401_422.out _; (with_reducible repeat (first | refine kdN ?_ _ | refine kd1 ?_ | refine kal ?_ _)); refine blk_far ?_ NB401_422.out _; (with_reducible repeat (first | refine kdN ?_ _ | refine kd1 ?_ | refine kal ?_ _)); refine blk_far ?_ NB401_422.out _; (with_reducible repeat (first | refine kdN ?_ _ | refine kd1 ?_ | refine kal ?_ _)); refine blk_far ?_ NB401_422.out _; (with_reducible repeat (first | refine kdN ?_ _ | refine kd1 ?_ | refine kal ?_ _)); exact BK401.out) hb); have n1_ := Azz.mk (blk_below (g := gb422) (o := .cells #[.int .i64 (wrap64 (rd l0 2)), .int .i64 (wrap64 (rd l0 3)), .int .i64 (wrap64 (t411)), .int .u32 ((t416) % 4294967296), .int .i64 (wrap64 (t421))] 24 (0, 0)) (by (with_reducible repeat (first | refine kdN ?_ _ | refine kd1 ?_ | refine kal ?_ _)); refine blk_put (cs := #[.int .i64 (wrap64 (rd l0 2)), .int .i64 (wrap64 (rd l0 3)), .int .i64 (wrap64 (t411)), .int .u32 ((t416) % 4294967296), .int .i64 0]) ?_ 4 _ rfl; (with_reducible repeat (first | refine kdN ?_ _ | refine kd1 ?_ | refine kal ?_ _)); refine blk_put (cs := #[.int .i64 (wrap64 (rd l0 2)), .int .i64 (wrap64 (rd l0 3)), .int .i64 (wrap64 (t411)), .int .u32 0, .int .i64 0]) ?_ 3 _ rfl; (with_reducible repeat (first | refine kdN ?_ _ | refine kd1 ?_ | refine kal ?_ _)); refine blk_put (cs := #[.int .i64 (wrap64 (rd l0 2)), .int .i64 (wrap64 (rd l0 3)), .int .i64 0, .int .u32 0, .int .i64 0]) ?_ 2 _ rfl; (with_reducible repeat (first | refine kdN ?_ _ | refine kd1 ?_ | refine kal ?_ _)); refine blk_put (cs := #[.int .i64 (wrap64 (rd l0 2)), .int .i64 0, .int .i64 0, .int .u32 0, .int .i64 0]) ?_ 1 _ rfl; (with_reducible repeat (first | refine kdN ?_ _ | refine kd1 ?_ | refine kal ?_ _)); refine blk_put (cs := #[.int .i64 0, .int .i64 0, .int .i64 0, .int .u32 0, .int .i64 0]) ?_ 0 _ rfl; (with_reducible repeat (first | refine kdN ?_ _ | refine kd1 ?_ | refine kal ?_ _)); exact BK422.out) hb); have n2_ := Azz.mk (below_step (by repeat (first | (with_reducible first | exact HB.out | apply bal | apply pbN | apply bd1 | refine bst ?_ GE401.out | refine bst ?_ GE422.out) | exact HB.out)) hb); clear BK401; clear BK422; clear HB; have BK401 := n0_; have BK422 := n1_; have HB := n2_; clear n0_ n1_ n2_; (try clear hb); (try clear hb2); (try clear hk); (try clear hi); have hcz76_0 : World.cell? _ ⟨gb401, 0, none⟩ = some (.int .i64 0) := (kcl BK401.out 0).trans rfl; have hcz76_1 : World.cell? _ ⟨gb401, 1, none⟩ = some (.int .i64 0) := (kcl BK401.out 1).trans rfl; have hcz76_2 : World.cell? _ ⟨gb401, 2, none⟩ = some (.int .i64 0) := (kcl BK401.out 2).trans rfl; have hcz76_3 : World.cell? _ ⟨gb401, 3, none⟩ = some (.int .u32 0) := (kcl BK401.out 3).trans rfl; have hcz76_4 : World.cell? _ ⟨gb401, 4, none⟩ = some (.int .i64 0) := (kcl BK401.out 4).trans rfl; have hfz76_0 := kfz BK401.out 0; have hfz76_1 := kfz BK401.out 1; have hfz76_2 := kfz BK401.out 2; have hfz76_3 := kfz BK401.out 3; have hfz76_4 := kfz BK401.out 4))
           refine bodyPost_ret (results_ct rfl _ _ gb401 24 #[.int .i64 0, .int .i64 0, .int .i64 0, .int .u32 0, .int .i64 0] (0, 0) _ rfl (by (with_reducible repeat (first | refine kdN ?_ _ | refine kd1 ?_ | refine kal ?_ _)); refine blk_put (cs := #[.int .i64 0, .int .i64 0, .int .i64 0, .int .u32 0, .int .i64 0]) ?_ 4 _ rfl; (with_reducible repeat (first | refine kdN ?_ _ | refine kd1 ?_ | refine kal ?_ _)); refine blk_put (cs := #[.int .i64 0, .int .i64 0, .int .i64 0, .int .u32 0, .int .i64 0]) ?_ 3 _ rfl; (with_reducible repeat (first | refine kdN ?_ _ | refine kd1 ?_ | refine kal ?_ _)); refine blk_put (cs := #[.int .i64 0, .int .i64 0, .int .i64 0, .int .u32 0, .int .i64 0]) ?_ 2 _ rfl; (with_reducible repeat (first | refine kdN ?_ _ | refine kd1 ?_ | refine kal ?_ _)); refine blk_put (cs := #[.int .i64 0, .int .i64 0, .int .i64 0, .int .u32 0, .int .i64 0]) ?_ 1 _ rfl; (with_reducible repeat (first | refine kdN ?_ _ | refine kd1 ?_ | refine kal ?_ _)); refine blk_put (cs := #[.int .i64 0, .int .i64 0, .int .i64 0, .int .u32 0, .int .i64 0]) ?_ 0 _ rfl; (with_reducible repeat (first | refine kdN ?_ _ | refine kd1 ?_ | refine kal ?_ _)); exact BK401.out) Try.underlying24 rfl (by kernel_rfl)) rfl ?_
           exact ⟨by first | rfl | (simp [errW_none, errW_some] <;> rfl) | (simp [*, errW_none, errW_some] <;> rfl), by repeat (first | (with_reducible first | exact HB.out | apply bal | apply pbN | apply bd1 | refine bst ?_ GE401.out | refine bst ?_ GE422.out) | exact HB.out)⟩
         ·rw [if_neg c18] at H
          exact absurd H (by simp)
        ·rw [if_neg c16] at H
         exact absurd H (by simp)
       ·rw [if_neg c14] at H
        exact absurd H (by simp)
      ·rw [if_neg c13] at H
       exact absurd H (by simp)
     ·rw [if_neg c12] at H
      exact absurd H (by simp)
    ·replace c11 := Bool.eq_false_iff.mpr c11
     subst c11
     have H1 : (some (0, 0, 0, 0, 0, 8)) = some (r1, r2, r3, r4, r5, r6) := by rw [if_neg (show ¬ (false = true) by decide)] at H; exact H
     clear H
     have H := H1
     clear H1
     simp only [Option.some.injEq, Prod.mk.injEq] at H
     obtain ⟨rfl, rfl, rfl, rfl, rfl, rfl⟩ := H
     go_wp2_with (first | ((with_reducible refine gate_callee (f := 35) rfl ?_); refine goesL_ (some 22) rfl rfl Try.func35 (by kernel_rfl) rfl #[.slice A0 l0.length c0] rfl (by (try simp only [List.map_toArray, List.map_cons, List.map_nil]); first | done | rfl | (simp only [List.length_drop, List.length_take]; rfl)) ?_; (with_reducible refine (rf_sum.calls kj1 _ _ l0 false _ ?side1 ?side2 A10.out).mono ?_); (case side1 => repeat (first | exact (Kd.C_below HR0.out HB.out) | (with_reducible refine Kd.C_alloc ?_ _) | (with_reducible refine Kd.C_drewN ?_ _) | (with_reducible refine Kd.C_drew ?_))); (case side2 => exact HC0.out); rintro e w' ⟨rfl, ⟨nd, rfl⟩⟩; refine ⟨_, rfl, ?_⟩; (try (rw [drewN_self wc]; generalize hq_ : World.drewN wc _ = wc; have n0_ : Azz (wc.heap[gb401]? = some (.cells #[.int .i64 0, .int .i64 0, .int .i64 0, .int .u32 0, .int .i64 0] 24 (0, 0))) := ⟨by rw [← hq_]; exact (by (with_reducible repeat (first | refine kdN ?_ _ | refine kd1 ?_ | refine kal ?_ _)); exact BK401.out)⟩; have n1_ : Azz (Below w.heap.size w wc) := ⟨by rw [← hq_]; exact (by repeat (first | (with_reducible first | exact HB.out | apply bal | apply pbN | apply bd1 | refine bst ?_ GE401.out) | exact HB.out))⟩; clear BK401 HB hq_; have BK401 := n0_; have HB := n1_; clear n0_ n1_)); have hcz77_0 : World.cell? _ ⟨gb401, 0, none⟩ = some (.int .i64 0) := (kcl BK401.out 0).trans rfl; have hcz77_1 : World.cell? _ ⟨gb401, 1, none⟩ = some (.int .i64 0) := (kcl BK401.out 1).trans rfl; have hcz77_2 : World.cell? _ ⟨gb401, 2, none⟩ = some (.int .i64 0) := (kcl BK401.out 2).trans rfl; have hcz77_3 : World.cell? _ ⟨gb401, 3, none⟩ = some (.int .u32 0) := (kcl BK401.out 3).trans rfl; have hcz77_4 : World.cell? _ ⟨gb401, 4, none⟩ = some (.int .i64 0) := (kcl BK401.out 4).trans rfl; have hfz77_0 := kfz BK401.out 0; have hfz77_1 := kfz BK401.out 1; have hfz77_2 := kfz BK401.out 2; have hfz77_3 := kfz BK401.out 3; have hfz77_4 := kfz BK401.out 4))
     refine bodyPost_ret (results_ct rfl _ _ gb401 24 #[.int .i64 0, .int .i64 0, .int .i64 0, .int .u32 0, .int .i64 0] (0, 0) _ rfl (by (with_reducible repeat (first | refine kdN ?_ _ | refine kd1 ?_ | refine kal ?_ _)); refine blk_put (cs := #[.int .i64 0, .int .i64 0, .int .i64 0, .int .u32 0, .int .i64 0]) ?_ 4 _ rfl; (with_reducible repeat (first | refine kdN ?_ _ | refine kd1 ?_ | refine kal ?_ _)); refine blk_put (cs := #[.int .i64 0, .int .i64 0, .int .i64 0, .int .u32 0, .int .i64 0]) ?_ 3 _ rfl; (with_reducible repeat (first | refine kdN ?_ _ | refine kd1 ?_ | refine kal ?_ _)); refine blk_put (cs := #[.int .i64 0, .int .i64 0, .int .i64 0, .int .u32 0, .int .i64 0]) ?_ 2 _ rfl; (with_reducible repeat (first | refine kdN ?_ _ | refine kd1 ?_ | refine kal ?_ _)); refine blk_put (cs := #[.int .i64 0, .int .i64 0, .int .i64 0, .int .u32 0, .int .i64 0]) ?_ 1 _ rfl; (with_reducible repeat (first | refine kdN ?_ _ | refine kd1 ?_ | refine kal ?_ _)); refine blk_put (cs := #[.int .i64 0, .int .i64 0, .int .i64 0, .int .u32 0, .int .i64 0]) ?_ 0 _ rfl; (with_reducible repeat (first | refine kdN ?_ _ | refine kd1 ?_ | refine kal ?_ _)); exact BK401.out) Try.underlying24 rfl (by kernel_rfl)) rfl ?_
     exact ⟨by first | rfl | (simp [errW_none, errW_some] <;> rfl) | (simp [*, errW_none, errW_some] <;> rfl), by repeat (first | (with_reducible first | exact HB.out | apply bal | apply pbN | apply bd1 | refine bst ?_ GE401.out) | exact HB.out)⟩

end Go.Proofs.Ytgeheedfmdlefaa.PF
end

section
namespace Go.Proofs.Ytgeheedfmdlefaa.PF
open Go.RowKit Go.Proofs.YtgeheedfmdlefaaW.PrintWords Go.Proofs.YtgeheedfmdlefaaW.PrintLast Go.Proofs.YtgeheedfmdlefaaW.PrintMore Go.Proofs.Ytgeheedfmdlefaa.Conv
attribute [local go_sem] max2_int min2_int max_two min_two max_three min_three max_four min_four   -- for this text's walks alone
set_option linter.unusedVariables false
set_option linter.unusedSimpArgs false

/-! ### rf_RightData: function 18 -/
def rf_RightData.f (a0_0 : Int) (a0_1 : Int) (a0_2 : Int) (a0_3 : ByteArray) (a0_4 : Int) : Option (Bool) := if a0_0 ≥ 1 then (if a0_0 ≤ 3 then (if a0_1 ≥ 0 then (if a0_1 ≤ 255 then (if a0_2 ≥ 0 then (if a0_2 ≤ 2147483647 then (if a0_4 ≥ 64 then (if a0_4 ≤ 1518 then (some (decide ((a0_3.size : Int) ≤ (wrap64 (a0_4 - 14))))) else (some false)) else (some false)) else (some false)) else (some false)) else (some false)) else (some false)) else (some false)) else (some false)
set_option maxHeartbeats 8000000 in
set_option maxRecDepth 100000 in
theorem rf_RightData.calls (a0_0 : Int) (a0_1 : Int) (a0_2 : Int) (a0_3 : ByteArray) (a0_4 : Int) (r : Bool) (w : World) (h : rf_RightData.f a0_0 a0_1 a0_2 a0_3 a0_4 = some r) :
  Calls Try.prog 18 #[.agg #[.int .i64 a0_0, .int .i64 a0_1, .int .i64 a0_2, .string a0_3, .int .i64 a0_4]] w fun e w' => e = .returned (.bool r) ∧ Below w.heap.size w w' := by
 have hu36 := Try.underlying36
 have HB := Azz.mk (Below.refl w.heap.size w)
 have H : (if a0_0 ≥ 1 then (if a0_0 ≤ 3 then (if a0_1 ≥ 0 then (if a0_1 ≤ 255 then (if a0_2 ≥ 0 then (if a0_2 ≤ 2147483647 then (if a0_4 ≥ 64 then (if a0_4 ≤ 1518 then (some (decide ((a0_3.size : Int) ≤ (wrap64 (a0_4 - 14))))) else (some false)) else (some false)) else (some false)) else (some false)) else (some false)) else (some false)) else (some false)) else (some false)) = some r := h
 clear h
 by_cases c2 : a0_0 ≥ 1
 ·rw [if_pos c2] at H
  have c2b0 : decide (1 ≤ a0_0) = true := decide_eq_true c2
  clear c2
  by_cases c3 : a0_0 ≤ 3
  ·rw [if_pos c3] at H
   have c3b0 : decide (a0_0 ≤ 3) = true := decide_eq_true c3
   clear c3
   by_cases c4 : a0_1 ≥ 0
   ·rw [if_pos c4] at H
    have c4b0 : decide (0 ≤ a0_1) = true := decide_eq_true c4
    clear c4
    by_cases c5 : a0_1 ≤ 255
    ·rw [if_pos c5] at H
     have c5b0 : decide (a0_1 ≤ 255) = true := decide_eq_true c5
     clear c5
     by_cases c6 : a0_2 ≥ 0
     ·rw [if_pos c6] at H
      have c6b0 : decide (0 ≤ a0_2) = true := decide_eq_true c6
      clear c6
      by_cases c7 : a0_2 ≤ 2147483647
      ·rw [if_pos c7] at H
       have c7b0 : decide (a0_2 ≤ 2147483647) = true := decide_eq_true c7
       clear c7
       by_cases c8 : a0_4 ≥ 64
       ·rw [if_pos c8] at H
        have c8b0 : decide (64 ≤ a0_4) = true := decide_eq_true c8
        clear c8
        by_cases c9 : a0_4 ≤ 1518
        ·rw [if_pos c9] at H
         have c9b0 : decide (a0_4 ≤ 1518) = true := decide_eq_true c9
         clear c9
         obtain rfl := Option.some.inj H
         go_enter Try.func18, Try.ntmps18
         go_wp2_with (first | ((with_reducible refine gate_dst (N := 1) rfl ?_); (try (refine gate_guard (by rfl) ?_; dsimp only)); refine box_event ?hg (N := 1) ?hd (cs := #[.int .i64 a0_0, .int .i64 a0_1, .int .i64 a0_2, .string a0_3, .int .i64 a0_4]) (t := 36) ?hr ?_; (case hd => rfl); (case hg => rfl); (case hr => first | (go_simp; done) | (go_simp; rfl)); intro gb338 hg w10 hbox hb; have n0_ := Azz.mk (below_step (by repeat (first | (with_reducible first | exact HB.out | apply bal | apply pbN | apply bd1) | exact HB.out)) hb); have n1_ := Azz.mk (hbox); have n2_ := Azz.mk ((by rw [hg]; exact (below_size (by repeat (first | (with_reducible first | exact HB.out | apply bal | apply pbN | apply bd1) | exact HB.out))) : w.heap.size ≤ gb338)); have n3_ := Azz.mk ((by rw [hg]; exact (below_size (by repeat (first | (with_reducible first | exact HB.out | apply bal | apply pbN | apply bd1) | exact HB.out))) : w.heap.size ≤ gb338)); clear HB; have HB := n0_; have BK338 := n1_; have GW338 := n2_; have GE338 := n3_; clear n0_ n1_ n2_ n3_; clear hb hbox hg; have hcz11_0 : World.cell? _ ⟨gb338, 0, none⟩ = some (.int .i64 a0_0) := (kcl BK338.out 0).trans rfl; have hcz11_1 : World.cell? _ ⟨gb338, 1, none⟩ = some (.int .i64 a0_1) := (kcl BK338.out 1).trans rfl; have hcz11_2 : World.cell? _ ⟨gb338, 2, none⟩ = some (.int .i64 a0_2) := (kcl BK338.out 2).trans rfl; have hcz11_3 : World.cell? _ ⟨gb338, 3, none⟩ = some (.string a0_3) := (kcl BK338.out 3).trans rfl; have hcz11_4 : World.cell? _ ⟨gb338, 4, none⟩ = some (.int .i64 a0_4) := (kcl BK338.out 4).trans rfl; have hfz11_0 := kfz BK338.out 0; have hfz11_1 := kfz BK338.out 1; have hfz11_2 := kfz BK338.out 2; have hfz11_3 := kfz BK338.out 3; have hfz11_4 := kfz BK338.out 4))
         go_ret
         exact ⟨by first | rfl | (simp [errW_none, errW_some] <;> rfl) | (simp [*, errW_none, errW_some] <;> rfl), by repeat (first | (with_reducible first | exact HB.out | apply bal | apply pbN | apply bd1 | refine bst ?_ GE338.out) | exact HB.out)⟩
        ·rw [if_neg c9] at H
         have c9b0 : decide (a0_4 ≤ 1518) = false := decide_eq_false c9
         clear c9
         obtain rfl := Option.some.inj H
         go_enter Try.func18, Try.ntmps18
         go_wp2_with (first | ((with_reducible refine gate_dst (N := 1) rfl ?_); (try (refine gate_guard (by rfl) ?_; dsimp only)); refine box_event ?hg (N := 1) ?hd (cs := #[.int .i64 a0_0, .int .i64 a0_1, .int .i64 a0_2, .string a0_3, .int .i64 a0_4]) (t := 36) ?hr ?_; (case hd => rfl); (case hg => rfl); (case hr => first | (go_simp; done) | (go_simp; rfl)); intro gb338 hg w12 hbox hb; have n0_ := Azz.mk (below_step (by repeat (first | (with_reducible first | exact HB.out | apply bal | apply pbN | apply bd1) | exact HB.out)) hb); have n1_ := Azz.mk (hbox); have n2_ := Azz.mk ((by rw [hg]; exact (below_size (by repeat (first | (with_reducible first | exact HB.out | apply bal | apply pbN | apply bd1) | exact HB.out))) : w.heap.size ≤ gb338)); have n3_ := Azz.mk ((by rw [hg]; exact (below_size (by repeat (first | (with_reducible first | exact HB.out | apply bal | apply pbN | apply bd1) | exact HB.out))) : w.heap.size ≤ gb338)); clear HB; have HB := n0_; have BK338 := n1_; have GW338 := n2_; have GE338 := n3_; clear n0_ n1_ n2_ n3_; clear hb hbox hg; have hcz13_0 : World.cell? _ ⟨gb338, 0, none⟩ = some (.int .i64 a0_0) := (kcl BK338.out 0).trans rfl; have hcz13_1 : World.cell? _ ⟨gb338, 1, none⟩ = some (.int .i64 a0_1) := (kcl BK338.out 1).trans rfl; have hcz13_2 : World.cell? _ ⟨gb338, 2, none⟩ = some (.int .i64 a0_2) := (kcl BK338.out 2).trans rfl; have hcz13_3 : World.cell? _ ⟨gb338, 3, none⟩ = some (.string a0_3) := (kcl BK338.out 3).trans rfl; have hcz13_4 : World.cell? _ ⟨gb338, 4, none⟩ = some (.int .i64 a0_4) := (kcl BK338.out 4).trans rfl; have hfz13_0 := kfz BK338.out 0; have hfz13_1 := kfz BK338.out 1; have hfz13_2 := kfz BK338.out 2; have hfz13_3 := kfz BK338.out 3; have hfz13_4 := kfz BK338.out 4))
         go_ret
         exact ⟨by first | rfl | (simp [errW_none, errW_some] <;> rfl) | (simp [*, errW_none, errW_some] <;> rfl), by repeat (first | (with_reducible first | exact HB.out | apply bal | apply pbN | apply bd1 | refine bst ?_ GE338.out) | exact HB.out)⟩
       ·rw [if_neg c8] at H
        have c8b0 : decide (64 ≤ a0_4) = false := decide_eq_false c8
        clear c8
        obtain rfl := Option.some.inj H
        go_enter Try.func18, Try.ntmps18
        go_wp2_with (first | ((with_reducible refine gate_dst (N := 1) rfl ?_); (try (refine gate_guard (by rfl) ?_; dsimp only)); refine box_event ?hg (N := 1) ?hd (cs := #[.int .i64 a0_0, .int .i64 a0_1, .int .i64 a0_2, .string a0_3, .int .i64 a0_4]) (t := 36) ?hr ?_; (case hd => rfl); (case hg => rfl); (case hr => first | (go_simp; done) | (go_simp; rfl)); intro gb338 hg w14 hbox hb; have n0_ := Azz.mk (below_step (by repeat (first | (with_reducible first | exact HB.out | apply bal | apply pbN | apply bd1) | exact HB.out)) hb); have n1_ := Azz.mk (hbox); have n2_ := Azz.mk ((by rw [hg]; exact (below_size (by repeat (first | (with_reducible first | exact HB.out | apply bal | apply pbN | apply bd1) | exact HB.out))) : w.heap.size ≤ gb338)); have n3_ := Azz.mk ((by rw [hg]; exact (below_size (by repeat (first | (with_reducible first | exact HB.out | apply bal | apply pbN | apply bd1) | exact HB.out))) : w.heap.size ≤ gb338)); clear HB; have HB := n0_; have BK338 := n1_; have GW338 := n2_; have GE338 := n3_; clear n0_ n1_ n2_ n3_; clear hb hbox hg; have hcz15_0 : World.cell? _ ⟨gb338, 0, none⟩ = some (.int .i64 a0_0) := (kcl BK338.out 0).trans rfl; have hcz15_1 : World.cell? _ ⟨gb338, 1, none⟩ = some (.int .i64 a0_1) := (kcl BK338.out 1).trans rfl; have hcz15_2 : World.cell? _ ⟨gb338, 2, none⟩ = some (.int .i64 a0_2) := (kcl BK338.out 2).trans rfl; have hcz15_3 : World.cell? _ ⟨gb338, 3, none⟩ = some (.string a0_3) := (kcl BK338.out 3).trans rfl; have hcz15_4 : World.cell? _ ⟨gb338, 4, none⟩ = some (.int .i64 a0_4) := (kcl BK338.out 4).trans rfl; have hfz15_0 := kfz BK338.out 0; have hfz15_1 := kfz BK338.out 1; have hfz15_2 := kfz BK338.out 2; have hfz15_3 := kfz BK338.out 3; have hfz15_4 := kfz BK338.out 4))
        go_ret
        exact ⟨by first | rfl | (simp [errW_none, errW_some] <;> rfl) | (simp [*, errW_none, errW_some] <;> rfl), by repeat (first | (with_reducible first | exact HB.out | apply bal | apply pbN | apply bd1 | refine bst ?_ GE338.out) | exact HB.out)⟩
      ·rw [if_neg c7] at H
       have c7b0 : decide (a0_2 ≤ 2147483647) = false := decide_eq_false c7
       clear c7
       obtain rfl := Option.some.inj H
       go_enter Try.func18, Try.ntmps18
       go_wp2_with (first | ((with_reducible refine gate_dst (N := 1) rfl ?_); (try (refine gate_guard (by rfl) ?_; dsimp only)); refine box_event ?hg (N := 1) ?hd (cs := #[.int .i64 a0_0, .int .i64 a0_1, .int .i64 a0_2, .string a0_3, .int .i64 a0_4]) (t := 36) ?hr ?_; (case hd => rfl); (case hg => rfl); (case hr => first | (go_simp; done) | (go_simp; rfl)); intro gb338 hg w16 hbox hb; have n0_ := Azz.mk (below_step (by repeat (first | (with_reducible first | exact HB.out | apply bal | apply pbN | apply bd1) | exact HB.out)) hb); have n1_ := Azz.mk (hbox); have n2_ := Azz.mk ((by rw [hg]; exact (below_size (by repeat (first | (with_reducible first | exact HB.out | apply bal | apply pbN | apply bd1) | exact HB.out))) : w.heap.size ≤ gb338)); have n3_ := Azz.mk ((by rw [hg]; exact (below_size (by repeat (first | (with_reducible first | exact HB.out | apply bal | apply pbN | apply bd1) | exact HB.out))) : w.heap.size ≤ gb338)); clear HB; have HB := n0_; have BK338 := n1_; have GW338 := n2_; have GE338 := n3_; clear n0_ n1_ n2_ n3_; clear hb hbox hg; have hcz17_0 : World.cell? _ ⟨gb338, 0, none⟩ = some (.int .i64 a0_0) := (kcl BK338.out 0).trans rfl; have hcz17_1 : World.cell? _ ⟨gb338, 1, none⟩ = some (.int .i64 a0_1) := (kcl BK338.out 1).trans rfl; have hcz17_2 : World.cell? _ ⟨gb338, 2, none⟩ = some (.int .i64 a0_2) := (kcl BK338.out 2).trans rfl; have hcz17_3 : World.cell? _ ⟨gb338, 3, none⟩ = some (.string a0_3) := (kcl BK338.out 3).trans rfl; have hcz17_4 : World.cell? _ ⟨gb338, 4, none⟩ = some (.int .i64 a0_4) := (kcl BK338.out 4).trans rfl; have hfz17_0 := kfz BK338.out 0; have hfz17_1 := kfz BK338.out 1; have hfz17_2 := kfz BK338.out 2; have hfz17_3 := kfz BK338.out 3; have hfz17_4 := kfz BK338.out 4))
       go_ret
       exact ⟨by first | rfl | (simp [errW_none, errW_some] <;> rfl) | (simp [*, errW_none, errW_some] <;> rfl), by repeat (first | (with_reducible first | exact HB.out | apply bal | apply pbN | apply bd1 | refine bst ?_ GE338.out) | exact HB.out)⟩
     ·rw [if_neg c6] at H
      have c6b0 : decide (0 ≤ a0_2) = false := decide_eq_false c6
      clear c6
      obtain rfl := Option.some.inj H
      go_enter Try.func18, Try.ntmps18
      go_wp2_with (first | ((with_reducible refine gate_dst (N := 1) rfl ?_); (try (refine gate_guard (by rfl) ?_; dsimp only)); refine box_event ?hg (N := 1) ?hd (cs := #[.int .i64 a0_0, .int .i64 a0_1, .int .i64 a0_2, .string a0_3, .int .i64 a0_4]) (t := 36) ?hr ?_; (case hd => rfl); (case hg => rfl); (case hr => first | (go_simp; done) | (go_simp; rfl)); intro gb338 hg w18 hbox hb; have n0_ := Azz.mk (below_step (by repeat (first | (with_reducible first | exact HB.out | apply bal | apply pbN | apply bd1) | exact HB.out)) hb); have n1_ := Azz.mk (hbox); have n2_ := Azz.mk ((by rw [hg]; exact (below_size (by repeat (first | (with_reducible first | exact HB.out | apply bal | apply pbN | apply bd1) | exact HB.out))) : w.heap.size ≤ gb338)); have n3_ := Azz.mk ((by rw [hg]; exact (below_size (by repeat (first | (with_reducible first | exact HB.out | apply bal | apply pbN | apply bd1) | exact HB.out))) : w.heap.size ≤ gb338)); clear HB; have HB := n0_; have BK338 := n1_; have GW338 := n2_; have GE338 := n3_; clear n0_ n1_ n2_ n3_; clear hb hbox hg; have hcz19_0 : World.cell? _ ⟨gb338, 0, none⟩ = some (.int .i64 a0_0) := (kcl BK338.out 0).trans rfl; have hcz19_1 : World.cell? _ ⟨gb338, 1, none⟩ = some (.int .i64 a0_1) := (kcl BK338.out 1).trans rfl; have hcz19_2 : World.cell? _ ⟨gb338, 2, none⟩ = some (.int .i64 a0_2) := (kcl BK338.out 2).trans rfl; have hcz19_3 : World.cell? _ ⟨gb338, 3, none⟩ = some (.string a0_3) := (kcl BK338.out 3).trans rfl; have hcz19_4 : World.cell? _ ⟨gb338, 4, none⟩ = some (.int .i64 a0_4) := (kcl BK338.out 4).trans rfl; have hfz19_0 := kfz BK338.out 0; have hfz19_1 := kfz BK338.out 1; have hfz19_2 := kfz BK338.out 2; have hfz19_3 := kfz BK338.out 3; have hfz19_4 := kfz BK338.out 4))
      go_ret
      exact ⟨by first | rfl | (simp [errW_none, errW_some] <;> rfl) | (simp [*, errW_none, errW_some] <;> rfl), by repeat (first | (with_reducible first | exact HB.out | apply bal | apply pbN | apply bd1 | refine bst ?_ GE338.out) | exact HB.out)⟩
    ·rw [if_neg c5] at H
     have c5b0 : decide (a0_1 ≤ 255) = false := decide_eq_false c5
     clear c5
     obtain rfl := Option.some.inj H
     go_enter Try.func18, Try.ntmps18
     go_wp2_with (first | ((with_reducible refine gate_dst (N := 1) rfl ?_); (try (refine gate_guard (by rfl) ?_; dsimp only)); refine box_event ?hg (N := 1) ?hd (cs := #[.int .i64 a0_0, .int .i64 a0_1, .int .i64 a0_2, .string a0_3, .int .i64 a0_4]) (t := 36) ?hr ?_; (case hd => rfl); (case hg => rfl); (case hr => first | (go_simp; done) | (go_simp; rfl)); intro gb338 hg w20 hbox hb; have n0_ := Azz.mk (below_step (by repeat (first | (with_reducible first | exact HB.out | apply bal | apply pbN | apply bd1) | exact HB.out)) hb); have n1_ := Azz.mk (hbox); have n2_ := Azz.mk ((by rw [hg]; exact (below_size (by repeat (first | (with_reducible first | exact HB.out | apply bal | apply pbN | apply bd1) | exact HB.out))) : w.heap.size ≤ gb338)); have n3_ := Azz.mk ((by rw [hg]; exact (below_size (by repeat (first | (with_reducible first | exact HB.out | apply bal | apply pbN | apply bd1) | exact HB.out))) : w.heap.size ≤ gb338)); clear HB; have HB := n0_; have BK338 := n1_; have GW338 := n2_; have GE338 := n3_; clear n0_ n1_ n2_ n3_; clear hb hbox hg; have hcz21_0 : World.cell? _ ⟨gb338, 0, none⟩ = some (.int .i64 a0_0) := (kcl BK338.out 0).trans rfl; have hcz21_1 : World.cell? _ ⟨gb338, 1, none⟩ = some (.int .i64 a0_1) := (kcl BK338.out 1).trans rfl; have hcz21_2 : World.cell? _ ⟨gb338, 2, none⟩ = some (.int .i64 a0_2) := (kcl BK338.out 2).trans rfl; have hcz21_3 : World.cell? _ ⟨gb338, 3, none⟩ = some (.string a0_3) := (kcl BK338.out 3).trans rfl; have hcz21_4 : World.cell? _ ⟨gb338, 4, none⟩ = some (.int .i64 a0_4) := (kcl BK338.out 4).trans rfl; have hfz21_0 := kfz BK338.out 0; have hfz21_1 := kfz BK338.out 1; have hfz21_2 := kfz BK338.out 2; have hfz21_3 := kfz BK338.out 3; have hfz21_4 := kfz BK338.out 4))
     go_ret
     exact ⟨by first | rfl | (simp [errW_none, errW_some] <;> rfl) | (simp [*, errW_none, errW_some] <;> rfl), by repeat (first | (with_reducible first | exact HB.out | apply bal | apply pbN | apply bd1 | refine bst ?_ GE338.out) | exact HB.out)⟩
   ·rw [if_neg c4] at H
    have c4b0 : decide (0 ≤ a0_1) = false := decide_eq_false c4
    clear c4
    obtain rfl := Option.some.inj H
    go_enter Try.func18, Try.ntmps18
    go_wp2_with (first | ((with_reducible refine gate_dst (N := 1) rfl ?_); (try (refine gate_guard (by rfl) ?_; dsimp only)); refine box_event ?hg (N := 1) ?hd (cs := #[.int .i64 a0_0, .int .i64 a0_1, .int .i64 a0_2, .string a0_3, .int .i64 a0_4]) (t := 36) ?hr ?_; (case hd => rfl); (case hg => rfl); (case hr => first | (go_simp; done) | (go_simp; rfl)); intro gb338 hg w22 hbox hb; have n0_ := Azz.mk (below_step (by repeat (first | (with_reducible first | exact HB.out | apply bal | apply pbN | apply bd1) | exact HB.out)) hb); have n1_ := Azz.mk (hbox); have n2_ := Azz.mk ((by rw [hg]; exact (below_size (by repeat (first | (with_reducible first | exact HB.out | apply bal | apply pbN | apply bd1) | exact HB.out))) : w.heap.size ≤ gb338)); have n3_ := Azz.mk ((by rw [hg]; exact (below_size (by repeat (first | (with_reducible first | exact HB.out | apply bal | apply pbN | apply bd1) | exact HB.out))) : w.heap.size ≤ gb338)); clear HB; have HB := n0_; have BK338 := n1_; have GW338 := n2_; have GE338 := n3_; clear n0_ n1_ n2_ n3_; clear hb hbox hg; have hcz23_0 : World.cell? _ ⟨gb338, 0, none⟩ = some (.int .i64 a0_0) := (kcl BK338.out 0).trans rfl; have hcz23_1 : World.cell? _ ⟨gb338, 1, none⟩ = some (.int .i64 a0_1) := (kcl BK338.out 1).trans rfl; have hcz23_2 : World.cell? _ ⟨gb338, 2, none⟩ = some (.int .i64 a0_2) := (kcl BK338.out 2).trans rfl; have hcz23_3 : World.cell? _ ⟨gb338, 3, none⟩ = some (.string a0_3) := (kcl BK338.out 3).trans rfl; have hcz23_4 : World.cell? _ ⟨gb338, 4, none⟩ = some (.int .i64 a0_4) := (kcl BK338.out 4).trans rfl; have hfz23_0 := kfz BK338.out 0; have hfz23_1 := kfz BK338.out 1; have hfz23_2 := kfz BK338.out 2; have hfz23_3 := kfz BK338.out 3; have hfz23_4 := kfz BK338.out 4))
    go_ret
    exact ⟨by first | rfl | (simp [errW_none, errW_some] <;> rfl) | (simp [*, errW_none, errW_some] <;> rfl), by repeat (first | (with_reducible first | exact HB.out | apply bal | apply pbN | apply bd1 | refine bst ?_ GE338.out) | exact HB.out)⟩
  ·rw [if_neg c3] at H
   have c3b0 : decide (a0_0 ≤ 3) = false := decide_eq_false c3
   clear c3
   obtain rfl := Option.some.inj H
   go_enter Try.func18, Try.ntmps18
   go_wp2_with (first | ((with_reducible refine gate_dst (N := 1) rfl ?_); (try (refine gate_guard (by rfl) ?_; dsimp only)); refine box_event ?hg (N := 1) ?hd (cs := #[.int .i64 a0_0, .int .i64 a0_1, .int .i64 a0_2, .string a0_3, .int .i64 a0_4]) (t := 36) ?hr ?_; (case hd => rfl); (case hg => rfl); (case hr => first | (go_simp; done) | (go_simp; rfl)); intro gb338 hg w24 hbox hb; have n0_ := Azz.mk (below_step (by repeat (first | (with_reducible first | exact HB.out | apply bal | apply pbN | apply bd1) | exact HB.out)) hb); have n1_ := Azz.mk (hbox); have n2_ := Azz.mk ((by rw [hg]; exact (below_size (by repeat (first | (with_reducible first | exact HB.out | apply bal | apply pbN | apply bd1) | exact HB.out))) : w.heap.size ≤ gb338)); have n3_ := Azz.mk ((by rw [hg]; exact (below_size (by repeat (first | (with_reducible first | exact HB.out | apply bal | apply pbN | apply bd1) | exact HB.out))) : w.heap.size ≤ gb338)); clear HB; have HB := n0_; have BK338 := n1_; have GW338 := n2_; have GE338 := n3_; clear n0_ n1_ n2_ n3_; clear hb hbox hg; have hcz25_0 : World.cell? _ ⟨gb338, 0, none⟩ = some (.int .i64 a0_0) := (kcl BK338.out 0).trans rfl; have hcz25_1 : World.cell? _ ⟨gb338, 1, none⟩ = some (.int .i64 a0_1) := (kcl BK338.out 1).trans rfl; have hcz25_2 : World.cell? _ ⟨gb338, 2, none⟩ = some (.int .i64 a0_2) := (kcl BK338.out 2).trans rfl; have hcz25_3 : World.cell? _ ⟨gb338, 3, none⟩ = some (.string a0_3) := (kcl BK338.out 3).trans rfl; have hcz25_4 : World.cell? _ ⟨gb338, 4, none⟩ = some (.int .i64 a0_4) := (kcl BK338.out 4).trans rfl; have hfz25_0 := kfz BK338.out 0; have hfz25_1 := kfz BK338.out 1; have hfz25_2 := kfz BK338.out 2; have hfz25_3 := kfz BK338.out 3; have hfz25_4 := kfz BK338.out 4))
   go_ret
   exact ⟨by first | rfl | (simp [errW_none, errW_some] <;> rfl) | (simp [*, errW_none, errW_some] <;> rfl), by repeat (first | (with_reducible first | exact HB.out | apply bal | apply pbN | apply bd1 | refine bst ?_ GE338.out) | exact HB.out)⟩
 ·rw [if_neg c2] at H
  have c2b0 : decide (1 ≤ a0_0) = false := decide_eq_false c2
  clear c2
  obtain rfl := Option.some.inj H
  go_enter Try.func18, Try.ntmps18
  go_wp2_with (first | ((with_reducible refine gate_dst (N := 1) rfl ?_); (try (refine gate_guard (by rfl) ?_; dsimp only)); refine box_event ?hg (N := 1) ?hd (cs := #[.int .i64 a0_0, .int .i64 a0_1, .int .i64 a0_2, .string a0_3, .int .i64 a0_4]) (t := 36) ?hr ?_; (case hd => rfl); (case hg => rfl); (case hr => first | (go_simp; done) | (go_simp; rfl)); intro gb338 hg w26 hbox hb; have n0_ := Azz.mk (below_step (by repeat (first | (with_reducible first | exact HB.out | apply bal | apply pbN | apply bd1) | exact HB.out)) hb); have n1_ := Azz.mk (hbox); have n2_ := Azz.mk ((by rw [hg]; exact (below_size (by repeat (first | (with_reducible first | exact HB.out | apply bal | apply pbN | apply bd1) | exact HB.out))) : w.heap.size ≤ gb338)); have n3_ := Azz.mk ((by rw [hg]; exact (below_size (by repeat (first | (with_reducible first | exact HB.out | apply bal | apply pbN | apply bd1) | exact HB.out))) : w.heap.size ≤ gb338)); clear HB; have HB := n0_; have BK338 := n1_; have GW338 := n2_; have GE338 := n3_; clear n0_ n1_ n2_ n3_; clear hb hbox hg; have hcz27_0 : World.cell? _ ⟨gb338, 0, none⟩ = some (.int .i64 a0_0) := (kcl BK338.out 0).trans rfl; have hcz27_1 : World.cell? _ ⟨gb338, 1, none⟩ = some (.int .i64 a0_1) := (kcl BK338.out 1).trans rfl; have hcz27_2 : World.cell? _ ⟨gb338, 2, none⟩ = some (.int .i64 a0_2) := (kcl BK338.out 2).trans rfl; have hcz27_3 : World.cell? _ ⟨gb338, 3, none⟩ = some (.string a0_3) := (kcl BK338.out 3).trans rfl; have hcz27_4 : World.cell? _ ⟨gb338, 4, none⟩ = some (.int .i64 a0_4) := (kcl BK338.out 4).trans rfl; have hfz27_0 := kfz BK338.out 0; have hfz27_1 := kfz BK338.out 1; have hfz27_2 := kfz BK338.out 2; have hfz27_3 := kfz BK338.out 3; have hfz27_4 := kfz BK338.out 4))
  go_ret
  exact ⟨by first | rfl | (simp [errW_none, errW_some] <;> rfl) | (simp [*, errW_none, errW_some] <;> rfl), by repeat (first | (with_reducible first | exact HB.out | apply bal | apply pbN | apply bd1 | refine bst ?_ GE338.out) | exact HB.out)⟩

end Go.Proofs.Ytgeheedfmdlefaa.PF
end
