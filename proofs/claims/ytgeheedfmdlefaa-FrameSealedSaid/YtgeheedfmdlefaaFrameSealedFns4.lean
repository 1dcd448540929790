/- The functions that the law runs, each as a Lean function with its proof; written and laid together by a program for this claim. -/
import Derived.Test.YtgeheedfmdlefaaFrameSealedFns0
import Derived.Test.YtgeheedfmdlefaaFrameSealedFns1
import Derived.Test.YtgeheedfmdlefaaFrameSealedFns2
import Derived.Test.YtgeheedfmdlefaaFrameSealedFns3
section
namespace Go.Proofs.Ytgeheedfmdlefaa.PF
open Go.RowKit Go.Proofs.YtgeheedfmdlefaaW.PrintWords Go.Proofs.YtgeheedfmdlefaaW.PrintLast Go.Proofs.YtgeheedfmdlefaaW.PrintMore Go.Proofs.Ytgeheedfmdlefaa.Conv
attribute [local go_sem] max2_int min2_int max_two min_two max_three min_three max_four min_four   -- for this text's walks alone
set_option linter.unusedVariables false
set_option linter.unusedSimpArgs false

/-! ### rf_Data: function 20 -/
def rf_Data.l0 : Nat → List Int → Int → Int → Int → ByteArray → Int → Option (List Int)
 | 0, _, _, _, _, _, _ => none
 | k + 1, x3, x340000, x340001, x340002, x340003, x340004 => if (x3.length : Int) < (wrap64 (x340004 - 4)) then (if x3.length < 140737488355328 then (rf_Data.l0 k (x3 ++ [0]) x340000 x340001 x340002 x340003 x340004) else (none)) else ((rf_Sum.f k x3).bind fun t365 => ((rf_number.f k (IntKind.u64.wrap (t365)) 4).bind fun t366 => ((rf_lay.f k x3 t366).bind fun t369 => (some t369))))
def rf_Data.f (k : Nat) (a0_0 : Int) (a0_1 : Int) (a0_2 : Int) (a0_3 : ByteArray) (a0_4 : Int) : Option (List Int) := (rf_number.f k (IntKind.u64.wrap (a0_2)) 4).bind fun t343 => ((rf_lay.f k (([8, 0, (a0_0) % 256, (a0_1) % 256] : List Int)) t343).bind fun t346 => ((rf_number.f k (IntKind.u64.wrap ((a0_3.size : Int))) 2).bind fun t349 => ((rf_lay.f k t346 t349).bind fun t352 => (if a0_3.size ≤ 9223372036854775807 then ((rf_lay.f k t352 (bytesOf a0_3)).bind fun t359 => (rf_Data.l0 k t359 a0_0 a0_1 a0_2 a0_3 a0_4)) else (none)))))
theorem rf_Data.mono_l : ∀ k, (∀ y0 y1 y2 y3 y4 y5, LeO (rf_Data.l0 k y0 y1 y2 y3 y4 y5) (rf_Data.l0 (k + 1) y0 y1 y2 y3 y4 y5))
 | 0 => fun _ _ _ _ _ _ r h => by simp [rf_Data.l0] at h
 | k + 1 => by
  have ih0 := rf_Data.mono_l k
  ·intro y0 y1 y2 y3 y4 y5
   unfold rf_Data.l0
   repeat' first
   | (with_reducible exact ih0 _ _ _ _ _ _)
   | (with_reducible exact rf_Sum.mono _ _)
   | (with_reducible exact rf_lay.mono _ _ _)
   | (with_reducible exact rf_number.mono _ _ _)
   | (with_reducible exact LeO.refl _)
   | (with_reducible exact LeO.none _)
   | (with_reducible refine LeO.ite ?_ ?_)
   | (with_reducible refine LeO.bind ?_ (fun _ => ?_))
   | exact ih0 _ _ _ _ _ _
   | exact rf_Sum.mono _ _
   | exact rf_lay.mono _ _ _
   | exact rf_number.mono _ _ _
   | exact LeO.none _
   | refine LeO.ite ?_ ?_
   | refine LeO.bind ?_ (fun _ => ?_)
theorem rf_Data.mono : ∀ a0 a1 a2 a3 a4 k, LeO (rf_Data.f k a0 a1 a2 a3 a4) (rf_Data.f (k + 1) a0 a1 a2 a3 a4) := by
 intro a0 a1 a2 a3 a4 k
 have ih0 := rf_Data.mono_l k
 unfold rf_Data.f
 repeat' first
   | (with_reducible exact ih0 _ _ _ _ _ _)
   | (with_reducible exact rf_Sum.mono _ _)
   | (with_reducible exact rf_lay.mono _ _ _)
   | (with_reducible exact rf_number.mono _ _ _)
   | (with_reducible exact LeO.refl _)
   | (with_reducible exact LeO.none _)
   | (with_reducible refine LeO.ite ?_ ?_)
   | (with_reducible refine LeO.bind ?_ (fun _ => ?_))
   | exact ih0 _ _ _ _ _ _
   | exact rf_Sum.mono _ _
   | exact rf_lay.mono _ _ _
   | exact rf_number.mono _ _ _
   | exact LeO.none _
   | refine LeO.ite ?_ ?_
   | refine LeO.bind ?_ (fun _ => ?_)
set_option maxHeartbeats 8000000 in
set_option maxRecDepth 100000 in
theorem rf_Data.calls (k : Nat) (a0_0 : Int) (a0_1 : Int) (a0_2 : Int) (a0_3 : ByteArray) (a0_4 : Int) (r : List Int) (w : World) (h : rf_Data.f k a0_0 a0_1 a0_2 a0_3 a0_4 = some r) :
  Calls Try.prog 20 #[.agg #[.int .i64 a0_0, .int .i64 a0_1, .int .i64 a0_2, .string a0_3, .int .i64 a0_4]] w fun e w' => ∃ v0_ : Value, e = .returned (v0_) ∧ Kd.R (Kd.int .u8) 5 w' w.heap.size (fun _ => True) v0_ r ∧ Below w.heap.size w w' := by
 have hu36 := Try.underlying36
 have HB := Azz.mk (Below.refl w.heap.size w)
 have H : ((rf_number.f k (IntKind.u64.wrap (a0_2)) 4).bind fun t343 => ((rf_lay.f k (([8, 0, (a0_0) % 256, (a0_1) % 256] : List Int)) t343).bind fun t346 => ((rf_number.f k (IntKind.u64.wrap ((a0_3.size : Int))) 2).bind fun t349 => ((rf_lay.f k t346 t349).bind fun t352 => (if a0_3.size ≤ 9223372036854775807 then ((rf_lay.f k t352 (bytesOf a0_3)).bind fun t359 => (rf_Data.l0 k t359 a0_0 a0_1 a0_2 a0_3 a0_4)) else (none)))))) = some r := h
 clear h
 obtain ⟨y340, hy340⟩ : ∃ y_ : List Int, y_ = (([8, 0, (a0_0) % 256, (a0_1) % 256] : List Int)) := ⟨_, rfl⟩
 replace H : ((rf_number.f k (IntKind.u64.wrap (a0_2)) 4).bind fun t343 => ((rf_lay.f k y340 t343).bind fun t346 => ((rf_number.f k (IntKind.u64.wrap ((a0_3.size : Int))) 2).bind fun t349 => ((rf_lay.f k t346 t349).bind fun t352 => (if a0_3.size ≤ 9223372036854775807 then ((rf_lay.f k t352 (bytesOf a0_3)).bind fun t359 => (rf_Data.l0 k t359 a0_0 a0_1 a0_2 a0_3 a0_4)) else (none)))))) = some r := by first | (rw [hy340]; with_reducible exact H) | (have H2_ := (Option.bind_some _ _).symm.trans H; rw [hy340]; with_reducible exact H2_) | (have H2_ := (Option.bind_some _ _).symm.trans H; with_reducible exact H2_) | with_reducible exact H | (rw [hy340]; exact H) | exact H
 have Ny340 := Azz.mk hy340
 clear hy340
 replace H := Option.bind_eq_some_iff.mp H
 obtain ⟨t343, A20, H⟩ := H
 replace H : ((rf_lay.f k y340 t343).bind fun t346 => ((rf_number.f k (IntKind.u64.wrap ((a0_3.size : Int))) 2).bind fun t349 => ((rf_lay.f k t346 t349).bind fun t352 => (if a0_3.size ≤ 9223372036854775807 then ((rf_lay.f k t352 (bytesOf a0_3)).bind fun t359 => (rf_Data.l0 k t359 a0_0 a0_1 a0_2 a0_3 a0_4)) else (none))))) = some r := H
 have A2 := Azz.mk A20
 clear A20
 replace H := Option.bind_eq_some_iff.mp H
 obtain ⟨t346, A30, H⟩ := H
 replace H : ((rf_number.f k (IntKind.u64.wrap ((a0_3.size : Int))) 2).bind fun t349 => ((rf_lay.f k t346 t349).bind fun t352 => (if a0_3.size ≤ 9223372036854775807 then ((rf_lay.f k t352 (bytesOf a0_3)).bind fun t359 => (rf_Data.l0 k t359 a0_0 a0_1 a0_2 a0_3 a0_4)) else (none)))) = some r := H
 have A3 := Azz.mk A30
 clear A30
 replace H := Option.bind_eq_some_iff.mp H
 obtain ⟨t349, A40, H⟩ := H
 replace H : ((rf_lay.f k t346 t349).bind fun t352 => (if a0_3.size ≤ 9223372036854775807 then ((rf_lay.f k t352 (bytesOf a0_3)).bind fun t359 => (rf_Data.l0 k t359 a0_0 a0_1 a0_2 a0_3 a0_4)) else (none))) = some r := H
 have A4 := Azz.mk A40
 clear A40
 replace H := Option.bind_eq_some_iff.mp H
 obtain ⟨t352, A50, H⟩ := H
 replace H : (if a0_3.size ≤ 9223372036854775807 then ((rf_lay.f k t352 (bytesOf a0_3)).bind fun t359 => (rf_Data.l0 k t359 a0_0 a0_1 a0_2 a0_3 a0_4)) else (none)) = some r := H
 have A5 := Azz.mk A50
 clear A50
 by_cases c6 : a0_3.size ≤ 9223372036854775807
 ·rw [if_pos c6] at H
  have c6b0 := eq_true c6
  have c6b1 : decide (a0_3.size ≤ 9223372036854775807) = true := decide_eq_true c6
  try have c6b2 : (9223372036854775807 < a0_3.size) = False := eq_false (Nat.not_lt.2 c6)
  clear c6
  obtain ⟨y355, hy355⟩ : ∃ y_ : List Int, y_ = (bytesOf a0_3) := ⟨_, rfl⟩
  replace H : ((rf_lay.f k t352 y355).bind fun t359 => (rf_Data.l0 k t359 a0_0 a0_1 a0_2 a0_3 a0_4)) = some r := by first | (rw [hy355]; with_reducible exact H) | (have H2_ := (Option.bind_some _ _).symm.trans H; rw [hy355]; with_reducible exact H2_) | (have H2_ := (Option.bind_some _ _).symm.trans H; with_reducible exact H2_) | with_reducible exact H | (rw [hy355]; exact H) | exact H
  have Ny355 := Azz.mk hy355
  clear hy355
  replace H := Option.bind_eq_some_iff.mp H
  obtain ⟨t359, A70, H⟩ := H
  replace H : (rf_Data.l0 k t359 a0_0 a0_1 a0_2 a0_3 a0_4) = some r := H
  have A7 := Azz.mk A70
  clear A70
  have H' := Azz.mk H
  clear H
  go_enter Try.func20, Try.ntmps20
  go_wp2_with (first | ((with_reducible refine gate_dst (N := 1) rfl ?_); refine box_event ?hg (N := 1) ?hd (cs := #[.int .i64 a0_0, .int .i64 a0_1, .int .i64 a0_2, .string a0_3, .int .i64 a0_4]) (t := 36) ?hr ?_; (case hd => rfl); (case hg => rfl); (case hr => first | (go_simp; done) | (go_simp; rfl)); intro gb339 hg w8 hbox hb; have n0_ := Azz.mk (below_step (by repeat (first | (with_reducible first | exact HB.out | apply bal | apply pbN | apply bd1) | exact HB.out)) hb); have n1_ := Azz.mk (hbox); have n2_ := Azz.mk ((by rw [hg]; exact (below_size (by repeat (first | (with_reducible first | exact HB.out | apply bal | apply pbN | apply bd1) | exact HB.out))) : w.heap.size ≤ gb339)); have n3_ := Azz.mk ((by rw [hg]; exact (below_size (by repeat (first | (with_reducible first | exact HB.out | apply bal | apply pbN | apply bd1) | exact HB.out))) : w.heap.size ≤ gb339)); clear HB; have HB := n0_; have BK339 := n1_; have GW339 := n2_; have GE339 := n3_; clear n0_ n1_ n2_ n3_; clear hb hbox hg; have hcz9_0 : World.cell? _ ⟨gb339, 0, none⟩ = some (.int .i64 a0_0) := (kcl BK339.out 0).trans rfl; have hcz9_1 : World.cell? _ ⟨gb339, 1, none⟩ = some (.int .i64 a0_1) := (kcl BK339.out 1).trans rfl; have hcz9_2 : World.cell? _ ⟨gb339, 2, none⟩ = some (.int .i64 a0_2) := (kcl BK339.out 2).trans rfl; have hcz9_3 : World.cell? _ ⟨gb339, 3, none⟩ = some (.string a0_3) := (kcl BK339.out 3).trans rfl; have hcz9_4 : World.cell? _ ⟨gb339, 4, none⟩ = some (.int .i64 a0_4) := (kcl BK339.out 4).trans rfl; have hfz9_0 := kfz BK339.out 0; have hfz9_1 := kfz BK339.out 1; have hfz9_2 := kfz BK339.out 2; have hfz9_3 := kfz BK339.out 3; have hfz9_4 := kfz BK339.out 4) | ((with_reducible refine gate_dst (N := 10) rfl ?_); refine Kd.R_lit (Kd.int .u8) _ 5 ?hg (N := 10) ?hd (xs := ([8, 0, (a0_0) % 256, (a0_1) % 256] : List Int)) (inner := [.int .u8 8, .int .u8 0, .int .u8 ((a0_0) % 256), .int .u8 ((a0_1) % 256)]) (ok := fun _ => True) (okp := fun _ => True) ?hr ?hp (fun _ hk => hk) trivial (Below.refl _ _) (Nat.le_refl _) (by simp) ?_; (case hd => rfl); (case hg => rfl); (case hr => first | (go_simp; done) | (go_simp; rfl)); (case hp => exact (Reps.one (show Kd.M (Kd.int .u8) _ _ _ 8 [.int .u8 8] from rfl) (Reps.one (show Kd.M (Kd.int .u8) _ _ _ 0 [.int .u8 0] from rfl) (Reps.one (show Kd.M (Kd.int .u8) _ _ _ ((a0_0) % 256) [.int .u8 ((a0_0) % 256)] from rfl) (Reps.one (show Kd.M (Kd.int .u8) _ _ _ ((a0_1) % 256) [.int .u8 ((a0_1) % 256)] from rfl) (Reps.none _ _)))))); intro v341 w10 ho11 hb hg_ hnew_; clear hg_ hnew_; (first | rw [← Ny340.out] at ho11 | (simp only [Int.reduceToNat] at ho11; rw [← Ny340.out] at ho11)); have n0_ := Azz.mk (Kd.R_lower ho11 (below_size (by repeat (first | (with_reducible first | exact HB.out | apply bal | apply pbN | apply bd1 | refine bst ?_ GE339.out) | exact HB.out)))); have n1_ := Azz.mk (blk_below (g := gb339) (o := .cells #[.int .i64 a0_0, .int .i64 a0_1, .int .i64 a0_2, .string a0_3, .int .i64 a0_4] 36 (0, 0)) (by (with_reducible repeat (first | refine kdN ?_ _ | refine kd1 ?_ | refine kal ?_ _)); exact BK339.out) hb); have n2_ := Azz.mk (below_step (by repeat (first | (with_reducible first | exact HB.out | apply bal | apply pbN | apply bd1 | refine bst ?_ GE339.out) | exact HB.out)) hb); clear BK339; clear HB; have HO342 := n0_; have BK339 := n1_; have HB := n2_; clear n0_ n1_ n2_; clear hb ho11; have hcz12_0 : World.cell? _ ⟨gb339, 0, none⟩ = some (.int .i64 a0_0) := (kcl BK339.out 0).trans rfl; have hcz12_1 : World.cell? _ ⟨gb339, 1, none⟩ = some (.int .i64 a0_1) := (kcl BK339.out 1).trans rfl; have hcz12_2 : World.cell? _ ⟨gb339, 2, none⟩ = some (.int .i64 a0_2) := (kcl BK339.out 2).trans rfl; have hcz12_3 : World.cell? _ ⟨gb339, 3, none⟩ = some (.string a0_3) := (kcl BK339.out 3).trans rfl; have hcz12_4 : World.cell? _ ⟨gb339, 4, none⟩ = some (.int .i64 a0_4) := (kcl BK339.out 4).trans rfl; have hfz12_0 := kfz BK339.out 0; have hfz12_1 := kfz BK339.out 1; have hfz12_2 := kfz BK339.out 2; have hfz12_3 := kfz BK339.out 3; have hfz12_4 := kfz BK339.out 4) | ((with_reducible refine gate_callee (f := 33) rfl ?_); refine goesL_ (some 15) rfl rfl Try.func33 (by kernel_rfl) rfl #[.int .u64 (IntKind.u64.wrap (a0_2)), .int .i64 4] rfl (by (try simp only [List.map_toArray, List.map_cons, List.map_nil]); first | done | rfl | (simp only [List.length_drop, List.length_take]; rfl)) ?_; (with_reducible refine (rf_number.calls k (IntKind.u64.wrap (a0_2)) 4 t343 _ A2.out).mono ?_); rintro e w13 ⟨v344, rfl, ho0, hb⟩; refine ⟨_, rfl, ?_⟩; have n0_ := Azz.mk (Kd.R_elder' (by (with_reducible repeat (first | apply Kd.R_alloc | apply Kd.R_drewN | apply Kd.R_drew)); exact HO342.out) (Kd.R_base ho0) hb); have n1_ := Azz.mk (Kd.R_lower (Kd.R_new' ho0 (Kd.R_lt (by (with_reducible repeat (first | apply Kd.R_alloc | apply Kd.R_drewN | apply Kd.R_drew)); exact HO342.out))) (below_size (by repeat (first | (with_reducible first | exact HB.out | apply bal | apply pbN | apply bd1 | refine bst ?_ GE339.out) | exact HB.out)))); have n2_ := Azz.mk (blk_below (g := gb339) (o := .cells #[.int .i64 a0_0, .int .i64 a0_1, .int .i64 a0_2, .string a0_3, .int .i64 a0_4] 36 (0, 0)) (by (with_reducible repeat (first | refine kdN ?_ _ | refine kd1 ?_ | refine kal ?_ _)); exact BK339.out) hb); have n3_ := Azz.mk (below_step (by repeat (first | (with_reducible first | exact HB.out | apply bal | apply pbN | apply bd1 | refine bst ?_ GE339.out) | exact HB.out)) hb); clear HO342; clear BK339; clear HB; have HO342 := n0_; have HO345 := n1_; have BK339 := n2_; have HB := n3_; clear n0_ n1_ n2_ n3_; (try clear hb); (try clear hb2); (try clear hk); (try clear hi); (try clear ho0); obtain ⟨Ao14, co14, eo14⟩ := Kd.R_slice HO342.out; subst eo14; obtain ⟨Ao15, co15, eo15⟩ := Kd.R_slice HO345.out; subst eo15) | ((with_reducible refine gate_callee (f := 32) rfl ?_); refine goesL_ (some 16) rfl rfl Try.func32 (by kernel_rfl) rfl #[.slice Ao14 y340.length co14, .slice Ao15 t343.length co15] rfl (by (try simp only [List.map_toArray, List.map_cons, List.map_nil]); first | done | rfl | (simp only [List.length_drop, List.length_take]; rfl)) ?_; (with_reducible refine (rf_lay.calls k (fun k_ => some k_ = (.slice Ao14 y340.length co14 : Value).ownBlock) (.slice Ao14 y340.length co14) y340 _ _ t343 t346 w _ ?side1 ?side2 ?side3 ?side4 A3.out).mono ?_); (case side1 => repeat (first | (with_reducible first | exact HB.out | apply bal | apply pbN | apply bd1 | refine bst ?_ GE339.out) | exact HB.out)); (case side2 => exact Kd.R_tight rfl HO342.out); (case side3 => exact Kd.C_kept_own (HO345.out) (fun k_ hk_ hs_ => (hk_.2) hs_)); (case side4 => exact (Kd.R_reads' HO345.out).2.1); rintro e w16 ⟨v347, rfl, ho0, hb, hkp⟩; refine ⟨_, rfl, ?_⟩; have n0_ := Azz.mk (blk_kept (by (with_reducible repeat (first | refine kdN ?_ _ | refine kd1 ?_ | refine kal ?_ _)); exact BK339.out) hkp (fun hs_ => (fun e_ => (Kd.R_ne HO342.out BK339.out (by decide)) e_) hs_)); have n1_ := Azz.mk (Kd.R_mono (ok' := fun k_ => some k_ ≠ (v347 : Value).ownBlock) (Kd.R_keptB (HO345.out) hkp (fun k_ hk_ hs_ => (hk_.2) hs_)) (fun k_ hk_ => fun e_ => Or.elim (ho0.1 k_ e_.symm) (fun hs_ => hk_.2.1 hs_) (fun hn_ => Nat.not_le.2 hk_.2.2 hn_))); have n2_ := Azz.mk (Kd.R_mono (ok' := fun k_ => some k_ ≠ (.slice Ao15 t343.length co15 : Value).ownBlock) ho0 (fun k_ hk_ => Or.elim hk_ (fun hs_ => fun e_ => (((HO345.out).1 k_ e_.symm).2) hs_) (fun hn_ => (Kd.fresh' (Kd.R_lt (by (with_reducible repeat (first | apply Kd.R_alloc | apply Kd.R_drewN | apply Kd.R_drew)); exact HO345.out)) k_ hn_)))); have n3_ := Azz.mk (hb); clear BK339; clear HO345; clear HB; clear HO342; have BK339 := n0_; have HO345 := n1_; have HO348 := n2_; have HB := n3_; clear n0_ n1_ n2_ n3_; (try clear hb); (try clear hkp); (try clear ho0); have hcz17_0 : World.cell? _ ⟨gb339, 0, none⟩ = some (.int .i64 a0_0) := (kcl BK339.out 0).trans rfl; have hcz17_1 : World.cell? _ ⟨gb339, 1, none⟩ = some (.int .i64 a0_1) := (kcl BK339.out 1).trans rfl; have hcz17_2 : World.cell? _ ⟨gb339, 2, none⟩ = some (.int .i64 a0_2) := (kcl BK339.out 2).trans rfl; have hcz17_3 : World.cell? _ ⟨gb339, 3, none⟩ = some (.string a0_3) := (kcl BK339.out 3).trans rfl; have hcz17_4 : World.cell? _ ⟨gb339, 4, none⟩ = some (.int .i64 a0_4) := (kcl BK339.out 4).trans rfl; have hfz17_0 := kfz BK339.out 0; have hfz17_1 := kfz BK339.out 1; have hfz17_2 := kfz BK339.out 2; have hfz17_3 := kfz BK339.out 3; have hfz17_4 := kfz BK339.out 4) | ((with_reducible refine gate_callee (f := 33) rfl ?_); refine goesL_ (some 22) rfl rfl Try.func33 (by kernel_rfl) rfl #[.int .u64 (IntKind.u64.wrap ((a0_3.size : Int))), .int .i64 2] rfl (by (try simp only [List.map_toArray, List.map_cons, List.map_nil]); first | done | rfl | (simp only [List.length_drop, List.length_take]; rfl)) ?_; (with_reducible refine (rf_number.calls k (IntKind.u64.wrap ((a0_3.size : Int))) 2 t349 _ A4.out).mono ?_); rintro e w18 ⟨v350, rfl, ho0, hb⟩; refine ⟨_, rfl, ?_⟩; have n0_ := Azz.mk (Kd.R_elder' (by (with_reducible repeat (first | apply Kd.R_alloc | apply Kd.R_drewN | apply Kd.R_drew)); exact HO345.out) (Kd.R_base ho0) hb); have n1_ := Azz.mk (Kd.R_elder' (by (with_reducible repeat (first | apply Kd.R_alloc | apply Kd.R_drewN | apply Kd.R_drew)); exact HO348.out) (Kd.R_base ho0) hb); have n2_ := Azz.mk (Kd.R_lower (Kd.R_new' (Kd.R_new' ho0 (Kd.R_lt (by (with_reducible repeat (first | apply Kd.R_alloc | apply Kd.R_drewN | apply Kd.R_drew)); exact HO345.out))) (Kd.R_lt (by (with_reducible repeat (first | apply Kd.R_alloc | apply Kd.R_drewN | apply Kd.R_drew)); exact HO348.out))) (below_size (by repeat (first | (with_reducible first | exact HB.out | apply bal | apply pbN | apply bd1 | refine bst ?_ GE339.out) | exact HB.out)))); have n3_ := Azz.mk (blk_below (g := gb339) (o := .cells #[.int .i64 a0_0, .int .i64 a0_1, .int .i64 a0_2, .string a0_3, .int .i64 a0_4] 36 (0, 0)) (by (with_reducible repeat (first | refine kdN ?_ _ | refine kd1 ?_ | refine kal ?_ _)); exact BK339.out) hb); have n4_ := Azz.mk (below_step (by repeat (first | (with_reducible first | exact HB.out | apply bal | apply pbN | apply bd1 | refine bst ?_ GE339.out) | exact HB.out)) hb); clear HO345; clear HO348; clear BK339; clear HB; have HO345 := n0_; have HO348 := n1_; have HO351 := n2_; have BK339 := n3_; have HB := n4_; clear n0_ n1_ n2_ n3_ n4_; (try clear hb); (try clear hb2); (try clear hk); (try clear hi); (try clear ho0); obtain ⟨Ao19, co19, eo19⟩ := Kd.R_slice HO348.out; subst eo19; obtain ⟨Ao20, co20, eo20⟩ := Kd.R_slice HO351.out; subst eo20) | ((with_reducible refine gate_callee (f := 32) rfl ?_); refine goesL_ (some 23) rfl rfl Try.func32 (by kernel_rfl) rfl #[.slice Ao19 t346.length co19, .slice Ao20 t349.length co20] rfl (by (try simp only [List.map_toArray, List.map_cons, List.map_nil]); first | done | rfl | (simp only [List.length_drop, List.length_take]; rfl)) ?_; (with_reducible refine (rf_lay.calls k (fun k_ => some k_ = (.slice Ao19 t346.length co19 : Value).ownBlock) (.slice Ao19 t346.length co19) t346 _ _ t349 t352 w _ ?side1 ?side2 ?side3 ?side4 A5.out).mono ?_); (case side1 => repeat (first | (with_reducible first | exact HB.out | apply bal | apply pbN | apply bd1 | refine bst ?_ GE339.out) | exact HB.out)); (case side2 => exact Kd.R_tight rfl HO348.out); (case side3 => exact Kd.C_kept_own (HO351.out) (fun k_ hk_ hs_ => (hk_.2) hs_)); (case side4 => exact (Kd.R_reads' HO351.out).2.1); rintro e w21 ⟨v353, rfl, ho0, hb, hkp⟩; refine ⟨_, rfl, ?_⟩; have n0_ := Azz.mk (blk_kept (by (with_reducible repeat (first | refine kdN ?_ _ | refine kd1 ?_ | refine kal ?_ _)); exact BK339.out) hkp (fun hs_ => (fun e_ => (Kd.R_ne HO348.out BK339.out (by decide)) e_) hs_)); have n1_ := Azz.mk (Kd.R_mono (ok' := fun k_ => some k_ ≠ (.slice Ao20 t349.length co20 : Value).ownBlock ∧ some k_ ≠ (v353 : Value).ownBlock) (Kd.R_keptB (HO345.out) hkp (fun k_ hk_ hs_ => (hk_.1) hs_)) (fun k_ hk_ => ⟨hk_.1.2, fun e_ => Or.elim (ho0.1 k_ e_.symm) (fun hs_ => hk_.2.1 hs_) (fun hn_ => Nat.not_le.2 hk_.2.2 hn_)⟩)); have n2_ := Azz.mk (Kd.R_mono (ok' := fun k_ => some k_ ≠ (.slice Ao15 t343.length co15 : Value).ownBlock ∧ some k_ ≠ (v353 : Value).ownBlock) (Kd.R_keptB (HO351.out) hkp (fun k_ hk_ hs_ => (hk_.2) hs_)) (fun k_ hk_ => ⟨hk_.1.1.2, fun e_ => Or.elim (ho0.1 k_ e_.symm) (fun hs_ => hk_.2.1 hs_) (fun hn_ => Nat.not_le.2 hk_.2.2 hn_)⟩)); have n3_ := Azz.mk (Kd.R_mono (ok' := fun k_ => some k_ ≠ (.slice Ao15 t343.length co15 : Value).ownBlock ∧ some k_ ≠ (.slice Ao20 t349.length co20 : Value).ownBlock) ho0 (fun k_ hk_ => ⟨Or.elim hk_ (fun hs_ => fun e_ => (((HO345.out).1 k_ e_.symm).1) hs_) (fun hn_ => (Kd.fresh' (Kd.R_lt (by (with_reducible repeat (first | apply Kd.R_alloc | apply Kd.R_drewN | apply Kd.R_drew)); exact HO345.out)) k_ hn_)), Or.elim hk_ (fun hs_ => fun e_ => (((HO351.out).1 k_ e_.symm).2) hs_) (fun hn_ => (Kd.fresh' (Kd.R_lt (by (with_reducible repeat (first | apply Kd.R_alloc | apply Kd.R_drewN | apply Kd.R_drew)); exact HO351.out)) k_ hn_))⟩)); have n4_ := Azz.mk (hb); clear BK339; clear HO345; clear HO351; clear HB; clear HO348; have BK339 := n0_; have HO345 := n1_; have HO351 := n2_; have HO354 := n3_; have HB := n4_; clear n0_ n1_ n2_ n3_ n4_; (try clear hb); (try clear hkp); (try clear ho0); have hcz22_0 : World.cell? _ ⟨gb339, 0, none⟩ = some (.int .i64 a0_0) := (kcl BK339.out 0).trans rfl; have hcz22_1 : World.cell? _ ⟨gb339, 1, none⟩ = some (.int .i64 a0_1) := (kcl BK339.out 1).trans rfl; have hcz22_2 : World.cell? _ ⟨gb339, 2, none⟩ = some (.int .i64 a0_2) := (kcl BK339.out 2).trans rfl; have hcz22_3 : World.cell? _ ⟨gb339, 3, none⟩ = some (.string a0_3) := (kcl BK339.out 3).trans rfl; have hcz22_4 : World.cell? _ ⟨gb339, 4, none⟩ = some (.int .i64 a0_4) := (kcl BK339.out 4).trans rfl; have hfz22_0 := kfz BK339.out 0; have hfz22_1 := kfz BK339.out 1; have hfz22_2 := kfz BK339.out 2; have hfz22_3 := kfz BK339.out 3; have hfz22_4 := kfz BK339.out 4) | ((with_reducible refine gate_dst (N := 27) rfl ?_); refine Go.Proofs.Ytgeheedfmdlefaa.Conv.conv_event ?hg (N := 27) ?hd (e := 5) (s := a0_3) (xs := y355) Ny355.out (of_decide_eq_true (by first | (with_reducible assumption) | assumption)) ?hr ?_; (case hd => rfl); (case hg => rfl); (case hr => (have kc_ := fun W_ => Go.Lib.run_convert_string_bytes (P := Try.prog) W_ 9 26 5 a0_3 Try.underlying9 Try.underlying26 Try.underlying5; first | (go_simp; done) | (go_simp; rfl))); intro gcv24 ccv24 w23 hge_ hC hcc hb; have n0_ := Azz.mk ((Kd.fresh' (Kd.R_lt (by (with_reducible repeat (first | apply Kd.R_alloc | apply Kd.R_drewN | apply Kd.R_drew)); exact HO345.out)) gcv24 hge_)); have n1_ := Azz.mk ((Kd.fresh' (Kd.R_lt (by (with_reducible repeat (first | apply Kd.R_alloc | apply Kd.R_drewN | apply Kd.R_drew)); exact HO351.out)) gcv24 hge_)); have n2_ := Azz.mk ((Kd.fresh' (Kd.R_lt (by (with_reducible repeat (first | apply Kd.R_alloc | apply Kd.R_drewN | apply Kd.R_drew)); exact HO354.out)) gcv24 hge_)); have n3_ := Azz.mk (Kd.R_below (by (with_reducible repeat (first | apply Kd.R_alloc | apply Kd.R_drewN | apply Kd.R_drew)); exact HO345.out) hb); have n4_ := Azz.mk (Kd.R_below (by (with_reducible repeat (first | apply Kd.R_alloc | apply Kd.R_drewN | apply Kd.R_drew)); exact HO351.out) hb); have n5_ := Azz.mk (Kd.R_below (by (with_reducible repeat (first | apply Kd.R_alloc | apply Kd.R_drewN | apply Kd.R_drew)); exact HO354.out) hb); have n6_ := Azz.mk (blk_below (g := gb339) (o := .cells #[.int .i64 a0_0, .int .i64 a0_1, .int .i64 a0_2, .string a0_3, .int .i64 a0_4] 36 (0, 0)) (by (with_reducible repeat (first | refine kdN ?_ _ | refine kd1 ?_ | refine kal ?_ _)); exact BK339.out) hb); have n7_ := Azz.mk (below_step (by repeat (first | (with_reducible first | exact HB.out | apply bal | apply pbN | apply bd1 | refine bst ?_ GE339.out) | exact HB.out)) hb); have n8_ := Azz.mk (hC); have n9_ := Azz.mk (hcc); clear HO345; clear HO351; clear HO354; clear BK339; clear HB; have HNcv24_HO345 := n0_; have HNcv24_HO351 := n1_; have HNcv24_HO354 := n2_; have HO345 := n3_; have HO351 := n4_; have HO354 := n5_; have BK339 := n6_; have HB := n7_; have HR358 := n8_; have HC358 := n9_; clear n0_ n1_ n2_ n3_ n4_ n5_ n6_ n7_ n8_ n9_; clear hb hC hcc hge_; obtain ⟨Ao25, co25, eo25⟩ := Kd.R_slice HO354.out; subst eo25) | ((with_reducible refine gate_callee (f := 32) rfl ?_); refine goesL_ (some 28) rfl rfl Try.func32 (by kernel_rfl) rfl #[.slice Ao25 t352.length co25, .slice (some ⟨gcv24, 0, none⟩) y355.length ccv24] rfl (by (try simp only [List.map_toArray, List.map_cons, List.map_nil]); first | done | rfl | (simp only [List.length_drop, List.length_take]; rfl)) ?_; (with_reducible refine (rf_lay.calls k (fun k_ => some k_ = (.slice Ao25 t352.length co25 : Value).ownBlock) (.slice Ao25 t352.length co25) t352 _ _ y355 t359 w _ ?side1 ?side2 ?side3 ?side4 A7.out).mono ?_); (case side1 => repeat (first | (with_reducible first | exact HB.out | apply bal | apply pbN | apply bd1 | refine bst ?_ GE339.out) | exact HB.out)); (case side2 => exact Kd.R_tight rfl HO354.out); (case side3 => exact Go.Proofs.Ytgeheedfmdlefaa.Conv.conv_kept (by repeat (first | (with_reducible exact HR358.out) | (with_reducible refine Kd.C_alloc ?_ _) | (with_reducible refine Kd.C_drewN ?_ _) | (with_reducible refine Kd.C_drew ?_) | exact HR358.out)) (fun hs_ => (HNcv24_HO354.out) hs_)); (case side4 => exact HC358.out); rintro e w26 ⟨v360, rfl, ho0, hb, hkp⟩; refine ⟨_, rfl, ?_⟩; have n0_ := Azz.mk (blk_kept (by (with_reducible repeat (first | refine kdN ?_ _ | refine kd1 ?_ | refine kal ?_ _)); exact BK339.out) hkp (fun hs_ => (fun e_ => (Kd.R_ne HO354.out BK339.out (by decide)) e_) hs_)); have n1_ := Azz.mk (Kd.R_mono (ok' := fun k_ => some k_ ≠ (.slice Ao20 t349.length co20 : Value).ownBlock ∧ some k_ ≠ (v360 : Value).ownBlock) (Kd.R_keptB (HO345.out) hkp (fun k_ hk_ hs_ => (hk_.2) hs_)) (fun k_ hk_ => ⟨hk_.1.1, fun e_ => Or.elim (ho0.1 k_ e_.symm) (fun hs_ => hk_.2.1 hs_) (fun hn_ => Nat.not_le.2 hk_.2.2 hn_)⟩)); have n2_ := Azz.mk (Kd.R_mono (ok' := fun k_ => some k_ ≠ (.slice Ao15 t343.length co15 : Value).ownBlock ∧ some k_ ≠ (v360 : Value).ownBlock) (Kd.R_keptB (HO351.out) hkp (fun k_ hk_ hs_ => (hk_.2) hs_)) (fun k_ hk_ => ⟨hk_.1.1, fun e_ => Or.elim (ho0.1 k_ e_.symm) (fun hs_ => hk_.2.1 hs_) (fun hn_ => Nat.not_le.2 hk_.2.2 hn_)⟩)); have n3_ := Azz.mk (Kd.R_mono (ok' := fun k_ => some k_ ≠ (.slice Ao15 t343.length co15 : Value).ownBlock ∧ some k_ ≠ (.slice Ao20 t349.length co20 : Value).ownBlock) ho0 (fun k_ hk_ => ⟨Or.elim hk_ (fun hs_ => fun e_ => (((HO345.out).1 k_ e_.symm).2) hs_) (fun hn_ => (Kd.fresh' (Kd.R_lt (by (with_reducible repeat (first | apply Kd.R_alloc | apply Kd.R_drewN | apply Kd.R_drew)); exact HO345.out)) k_ hn_)), Or.elim hk_ (fun hs_ => fun e_ => (((HO351.out).1 k_ e_.symm).2) hs_) (fun hn_ => (Kd.fresh' (Kd.R_lt (by (with_reducible repeat (first | apply Kd.R_alloc | apply Kd.R_drewN | apply Kd.R_drew)); exact HO351.out)) k_ hn_))⟩)); have n4_ := Azz.mk (hb); clear BK339; clear HO345; clear HO351; clear HB; clear HO354; have BK339 := n0_; have HO345 := n1_; have HO351 := n2_; have HO361 := n3_; have HB := n4_; clear n0_ n1_ n2_ n3_ n4_; (try clear hb); (try clear hkp); (try clear ho0)))
  go_loopg [3] k (fun kq v3 w' => ∃ (x3_1 : List Int), Azz (rf_Data.l0 kq x3_1 a0_0 a0_1 a0_2 a0_3 a0_4 = some r) ∧ Azz (kq ≤ k) ∧ Azz (Kd.R (Kd.int .u8) 5 w' w.heap.size (fun _ => True) v3 x3_1) ∧ Azz (w'.heap[gb339]? = some (.cells #[.int .i64 a0_0, .int .i64 a0_1, .int .i64 a0_2, .string a0_3, .int .i64 a0_4] 36 (0, 0))) ∧ Azz (Below w.heap.size w w'))
  case atStart => exact ⟨(t359), H', ⟨Nat.le_refl _⟩, ⟨by (with_reducible repeat (first | apply Kd.R_alloc | apply Kd.R_drewN | apply Kd.R_drew)); exact Kd.R_mono HO361.out (fun _ hk => trivial)⟩, ⟨by (with_reducible repeat (first | refine kdN ?_ _ | refine kd1 ?_ | refine kal ?_ _)); exact BK339.out⟩, ⟨by repeat (first | (with_reducible first | exact HB.out | apply bal | apply pbN | apply bd1 | refine bst ?_ GE339.out) | exact HB.out)⟩⟩
  case round =>
   clear H'
   try clear c2
   try clear p2
   try clear c3
   try clear c6
   try clear c6b0
   try clear c6b1
   try clear c6b2
   try clear c20
   try clear hcz12_0
   try clear hcz12_1
   try clear hcz12_2
   try clear hcz12_3
   try clear hcz12_4
   try clear hcz17_0
   try clear hcz17_1
   try clear hcz17_2
   try clear hcz17_3
   try clear hcz17_4
   try clear hcz22_0
   try clear hcz22_1
   try clear hcz22_2
   try clear hcz22_3
   try clear hcz22_4
   try clear hcz9_0
   try clear hcz9_1
   try clear hcz9_2
   try clear hcz9_3
   try clear hcz9_4
   try clear hfz12_0
   try clear hfz12_1
   try clear hfz12_2
   try clear hfz12_3
   try clear hfz12_4
   try clear hfz17_0
   try clear hfz17_1
   try clear hfz17_2
   try clear hfz17_3
   try clear hfz17_4
   try clear hfz22_0
   try clear hfz22_1
   try clear hfz22_2
   try clear hfz22_3
   try clear hfz22_4
   try clear hfz9_0
   try clear hfz9_1
   try clear hfz9_2
   try clear hfz9_3
   try clear hfz9_4
   obtain ⟨x3_1, HA, HK1, HO_3, BK339, HB⟩ := hrel
   cases gk with
   | zero => exact absurd HA.out (by simp [rf_Data.l0])
   | succ k1 =>
    have H := HA.out
    clear HA
    simp only [rf_Data.l0] at H
    by_cases c27 : (x3_1.length : Int) < (wrap64 (a0_4 - 4))
    ·rw [if_pos c27] at H
     have c27b0 : decide ((x3_1.length : Int) < (wrap64 (a0_4 - 4))) = true := decide_eq_true c27
     clear c27
     by_cases c28 : x3_1.length < 140737488355328
     ·rw [if_pos c28] at H
      have LMc28 := Azz.mk c28
      clear c28
      obtain ⟨y362, hy362⟩ : ∃ y_ : List Int, y_ = (x3_1 ++ [0]) := ⟨_, rfl⟩
      replace H : (rf_Data.l0 k1 y362 a0_0 a0_1 a0_2 a0_3 a0_4) = some r := by first | (rw [hy362]; with_reducible exact H) | (have H2_ := (Option.bind_some _ _).symm.trans H; rw [hy362]; with_reducible exact H2_) | (have H2_ := (Option.bind_some _ _).symm.trans H; with_reducible exact H2_) | with_reducible exact H | (rw [hy362]; exact H) | exact H
      have Ny362 := Azz.mk hy362
      clear hy362
      have H' := Azz.mk H
      clear H
      obtain ⟨Ao29, co29, eo29⟩ := Kd.R_slice HO_3.out
      subst eo29
      have hcz30_0 : World.cell? _ ⟨gb339, 0, none⟩ = some (.int .i64 a0_0) := (kcl BK339.out 0).trans rfl
      have hcz30_1 : World.cell? _ ⟨gb339, 1, none⟩ = some (.int .i64 a0_1) := (kcl BK339.out 1).trans rfl
      have hcz30_2 : World.cell? _ ⟨gb339, 2, none⟩ = some (.int .i64 a0_2) := (kcl BK339.out 2).trans rfl
      have hcz30_3 : World.cell? _ ⟨gb339, 3, none⟩ = some (.string a0_3) := (kcl BK339.out 3).trans rfl
      have hcz30_4 : World.cell? _ ⟨gb339, 4, none⟩ = some (.int .i64 a0_4) := (kcl BK339.out 4).trans rfl
      have hfz30_0 := kfz BK339.out 0
      have hfz30_1 := kfz BK339.out 1
      have hfz30_2 := kfz BK339.out 2
      have hfz30_3 := kfz BK339.out 3
      have hfz30_4 := kfz BK339.out 4
      go_wp2_with (first | ((with_reducible refine gate_builtin (b := .append) (xs := #[.tmp 35, .tmp 36]) rfl ?_); at_builtin; refine Kd.R_append (Kd.int .u8) (w0 := w) w.heap.size rfl (.tmp 35) (.tmp 36) 26 5 (.int .u8 0) 1 rfl Try.underlying26 info5 rfl (by decide) (by omega) (.slice Ao29 x3_1.length co29) x3_1 0 [.int .u8 0] (fun _ => True) (fun _ => False) rfl rfl ?aP (fun _ hk => hk.elim) ?aF ?aO ?aB ?aS ?aL ?_; (case aP => exact rfl); (case aB => exact (by repeat (first | (with_reducible first | exact HB.out | apply bal | apply pbN | apply bd1 | refine bst ?_ GE339.out) | exact HB.out))); (case aF => exact (fun _ _ => trivial)); (case aO => exact (by (with_reducible repeat (first | apply Kd.R_alloc | apply Kd.R_drewN | apply Kd.R_drew)); exact HO_3.out)); (case aS => exact (below_size (by repeat (first | (with_reducible first | exact HB.out | apply bal | apply pbN | apply bd1 | refine bst ?_ GE339.out) | exact HB.out)))); (case aL => have := LMc28.out; omega); intro v363 w31 ho hb hg hat; rw [← Ny362.out] at ho; have n0_ := Azz.mk (blk_grown (g := gb339) (o := .cells #[.int .i64 a0_0, .int .i64 a0_1, .int .i64 a0_2, .string a0_3, .int .i64 a0_4] 36 (0, 0)) (by (with_reducible repeat (first | refine kdN ?_ _ | refine kd1 ?_ | refine kal ?_ _)); exact BK339.out) hg (Kd.R_ne HO_3.out BK339.out (by decide))); have n1_ := Azz.mk (hb); have n2_ := Azz.mk (ho); clear BK339; clear HB; clear HO_3; have BK339 := n0_; have HB := n1_; have HO364 := n2_; clear n0_ n1_ n2_; clear ho hb hg hat))
      go_roundg k1
      case measure => have := HK1.out; omega
      case rel => exact ⟨(y362), H', ⟨by have := HK1.out; omega⟩, ⟨by (with_reducible repeat (first | apply Kd.R_alloc | apply Kd.R_drewN | apply Kd.R_drew)); exact HO364.out⟩, ⟨by (with_reducible repeat (first | refine kdN ?_ _ | refine kd1 ?_ | refine kal ?_ _)); exact BK339.out⟩, ⟨by repeat (first | (with_reducible first | exact HB.out | apply bal | apply pbN | apply bd1 | refine bst ?_ GE339.out) | exact HB.out)⟩⟩
     ·rw [if_neg c28] at H
      exact absurd H (by simp)
    ·rw [if_neg c27] at H
     have c27b0 : decide ((x3_1.length : Int) < (wrap64 (a0_4 - 4))) = false := decide_eq_false c27
     clear c27
     replace H := Option.bind_eq_some_iff.mp H
     obtain ⟨t365, A320, H⟩ := H
     replace H : ((rf_number.f k1 (IntKind.u64.wrap (t365)) 4).bind fun t366 => ((rf_lay.f k1 x3_1 t366).bind fun t369 => (some t369))) = some r := H
     have A32 := Azz.mk A320
     clear A320
     replace H := Option.bind_eq_some_iff.mp H
     obtain ⟨t366, A330, H⟩ := H
     replace H : ((rf_lay.f k1 x3_1 t366).bind fun t369 => (some t369)) = some r := H
     have A33 := Azz.mk A330
     clear A330
     replace H := Option.bind_eq_some_iff.mp H
     obtain ⟨t369, A340, H⟩ := H
     replace H : (some t369) = some r := H
     have A34 := Azz.mk A340
     clear A340
     obtain rfl := Option.some.inj H
     obtain ⟨Ao35, co35, eo35⟩ := Kd.R_slice HO_3.out
     subst eo35
     have hcz36_0 : World.cell? _ ⟨gb339, 0, none⟩ = some (.int .i64 a0_0) := (kcl BK339.out 0).trans rfl
     have hcz36_1 : World.cell? _ ⟨gb339, 1, none⟩ = some (.int .i64 a0_1) := (kcl BK339.out 1).trans rfl
     have hcz36_2 : World.cell? _ ⟨gb339, 2, none⟩ = some (.int .i64 a0_2) := (kcl BK339.out 2).trans rfl
     have hcz36_3 : World.cell? _ ⟨gb339, 3, none⟩ = some (.string a0_3) := (kcl BK339.out 3).trans rfl
     have hcz36_4 : World.cell? _ ⟨gb339, 4, none⟩ = some (.int .i64 a0_4) := (kcl BK339.out 4).trans rfl
     have hfz36_0 := kfz BK339.out 0
     have hfz36_1 := kfz BK339.out 1
     have hfz36_2 := kfz BK339.out 2
     have hfz36_3 := kfz BK339.out 3
     have hfz36_4 := kfz BK339.out 4
     go_wp2_with (first | ((with_reducible refine gate_callee (f := 24) rfl ?_); refine goesL_ (some 40) rfl rfl Try.func24 (by kernel_rfl) rfl #[.slice Ao35 x3_1.length co35] rfl (by (try simp only [List.map_toArray, List.map_cons, List.map_nil]); first | done | rfl | (simp only [List.length_drop, List.length_take]; rfl)) ?_; (with_reducible refine (rf_Sum.calls k1 _ _ x3_1 t365 _ ?side1 ?side2 A32.out).mono ?_); (case side1 => repeat (first | exact (Kd.R_reads' HO_3.out).2.2 | (with_reducible refine Kd.C_alloc ?_ _) | (with_reducible refine Kd.C_drewN ?_ _) | (with_reducible refine Kd.C_drew ?_))); (case side2 => exact (Kd.R_reads' HO_3.out).2.1); rintro e w' ⟨rfl, ⟨nd, rfl⟩⟩; refine ⟨_, rfl, ?_⟩) | ((with_reducible refine gate_callee (f := 33) rfl ?_); refine goesL_ (some 42) rfl rfl Try.func33 (by kernel_rfl) rfl #[.int .u64 (IntKind.u64.wrap (t365)), .int .i64 4] rfl (by (try simp only [List.map_toArray, List.map_cons, List.map_nil]); first | done | rfl | (simp only [List.length_drop, List.length_take]; rfl)) ?_; (with_reducible refine (rf_number.calls k1 (IntKind.u64.wrap (t365)) 4 t366 _ A33.out).mono ?_); rintro e w37 ⟨v367, rfl, ho0, hb⟩; refine ⟨_, rfl, ?_⟩; have n0_ := Azz.mk (Kd.R_elder' (by (with_reducible repeat (first | apply Kd.R_alloc | apply Kd.R_drewN | apply Kd.R_drew)); exact HO_3.out) (Kd.R_base ho0) hb); have n1_ := Azz.mk (Kd.R_lower (Kd.R_new' ho0 (Kd.R_lt (by (with_reducible repeat (first | apply Kd.R_alloc | apply Kd.R_drewN | apply Kd.R_drew)); exact HO_3.out))) (below_size (by repeat (first | (with_reducible first | exact HB.out | apply bal | apply pbN | apply bd1 | refine bst ?_ GE339.out) | exact HB.out)))); have n2_ := Azz.mk (blk_below (g := gb339) (o := .cells #[.int .i64 a0_0, .int .i64 a0_1, .int .i64 a0_2, .string a0_3, .int .i64 a0_4] 36 (0, 0)) (by (with_reducible repeat (first | refine kdN ?_ _ | refine kd1 ?_ | refine kal ?_ _)); exact BK339.out) hb); have n3_ := Azz.mk (below_step (by repeat (first | (with_reducible first | exact HB.out | apply bal | apply pbN | apply bd1 | refine bst ?_ GE339.out) | exact HB.out)) hb); clear HO_3; clear BK339; clear HB; have HO_3 := n0_; have HO368 := n1_; have BK339 := n2_; have HB := n3_; clear n0_ n1_ n2_ n3_; (try clear hb); (try clear hb2); (try clear hk); (try clear hi); (try clear ho0); obtain ⟨Ao38, co38, eo38⟩ := Kd.R_slice HO368.out; subst eo38) | ((with_reducible refine gate_callee (f := 32) rfl ?_); refine goesL_ (some 43) rfl rfl Try.func32 (by kernel_rfl) rfl #[.slice Ao35 x3_1.length co35, .slice Ao38 t366.length co38] rfl (by (try simp only [List.map_toArray, List.map_cons, List.map_nil]); first | done | rfl | (simp only [List.length_drop, List.length_take]; rfl)) ?_; (with_reducible refine (rf_lay.calls k1 (fun k_ => some k_ = (.slice Ao35 x3_1.length co35 : Value).ownBlock) (.slice Ao35 x3_1.length co35) x3_1 _ _ t366 t369 w _ ?side1 ?side2 ?side3 ?side4 A34.out).mono ?_); (case side1 => repeat (first | (with_reducible first | exact HB.out | apply bal | apply pbN | apply bd1 | refine bst ?_ GE339.out) | exact HB.out)); (case side2 => exact Kd.R_tight rfl HO_3.out); (case side3 => exact Kd.C_kept_own (HO368.out) (fun k_ hk_ hs_ => (hk_.2) hs_)); (case side4 => exact (Kd.R_reads' HO368.out).2.1); rintro e w39 ⟨v370, rfl, ho0, hb, hkp⟩; refine ⟨_, rfl, ?_⟩; have n0_ := Azz.mk (blk_kept (by (with_reducible repeat (first | refine kdN ?_ _ | refine kd1 ?_ | refine kal ?_ _)); exact BK339.out) hkp (fun hs_ => (fun e_ => (Kd.R_ne HO_3.out BK339.out (by decide)) e_) hs_)); have n1_ := Azz.mk (Kd.R_mono (ok' := fun k_ => some k_ ≠ (v370 : Value).ownBlock) (Kd.R_keptB (HO368.out) hkp (fun k_ hk_ hs_ => (hk_.2) hs_)) (fun k_ hk_ => fun e_ => Or.elim (ho0.1 k_ e_.symm) (fun hs_ => hk_.2.1 hs_) (fun hn_ => Nat.not_le.2 hk_.2.2 hn_))); have n2_ := Azz.mk (Kd.R_mono (ok' := fun k_ => some k_ ≠ (.slice Ao38 t366.length co38 : Value).ownBlock) ho0 (fun k_ hk_ => Or.elim hk_ (fun hs_ => fun e_ => (((HO368.out).1 k_ e_.symm).2) hs_) (fun hn_ => (Kd.fresh' (Kd.R_lt (by (with_reducible repeat (first | apply Kd.R_alloc | apply Kd.R_drewN | apply Kd.R_drew)); exact HO368.out)) k_ hn_)))); have n3_ := Azz.mk (hb); clear BK339; clear HO368; clear HB; clear HO_3; have BK339 := n0_; have HO368 := n1_; have HO371 := n2_; have HB := n3_; clear n0_ n1_ n2_ n3_; (try clear hb); (try clear hkp); (try clear ho0)))
     go_ret
     exact ⟨_, by first | rfl | (simp [errW_none, errW_some] <;> rfl) | (simp [*, errW_none, errW_some] <;> rfl), by (with_reducible repeat (first | apply Kd.R_alloc | apply Kd.R_drewN | apply Kd.R_drew)); exact Kd.R_mono HO371.out (fun _ hk => trivial), by repeat (first | (with_reducible first | exact HB.out | apply bal | apply pbN | apply bd1 | refine bst ?_ GE339.out) | exact HB.out)⟩
 ·rw [if_neg c6] at H
  exact absurd H (by simp)

end Go.Proofs.Ytgeheedfmdlefaa.PF
end

section
namespace Go.Proofs.Ytgeheedfmdlefaa.PF
open Go.RowKit Go.Proofs.YtgeheedfmdlefaaW.PrintWords Go.Proofs.YtgeheedfmdlefaaW.PrintLast Go.Proofs.YtgeheedfmdlefaaW.PrintMore Go.Proofs.Ytgeheedfmdlefaa.Conv
attribute [local go_sem] max2_int min2_int max_two min_two max_three min_three max_four min_four   -- for this text's walks alone
set_option linter.unusedVariables false
set_option linter.unusedSimpArgs false

/-! ### rf_ReadData: function 22 -/
def rf_ReadData.j0 : Nat → List Int → Bool → Option (Int × Int × Int × ByteArray × Int × Int)
 | 0, _, _ => none
 | k + 1, x0, x25 => if x25 = true then (some (0, 0, 0, (⟨#[]⟩ : ByteArray), 0, 2)) else ((rf_sum.f k x0).bind fun t431 => (if t431 = true then (if 10 ≤ (x0.length : Int) then ((rf_value.f k ((x0.take 10).drop 8)).bind fun t436 => (if (wrap64 (t436)) > (wrap64 ((x0.length : Int) - 14)) then (some (0, 0, 0, (⟨#[]⟩ : ByteArray), 0, 2)) else (if 2 < (x0.length : Int) then (if 3 < (x0.length : Int) then (if 8 ≤ (x0.length : Int) then ((rf_value.f k ((x0.take 8).drop 4)).bind fun t443 => (if 10 ≤ (wrap64 (10 + (wrap64 (t436)))) then (if (wrap64 (10 + (wrap64 (t436)))) ≤ (x0.length : Int) then ((some ((x0.take ((wrap64 (10 + (wrap64 (t436)))) : Int).toNat).drop 10 : List Int)).bind fun y444 => ((rf_RightData.f (wrap64 (rd x0 2)) (wrap64 (rd x0 3)) (wrap64 (t443)) (strOfNums y444) (x0.length : Int)).bind fun t449 => (if t449 = true then ((rf_Data.f k (wrap64 (rd x0 2)) (wrap64 (rd x0 3)) (wrap64 (t443)) (strOfNums y444) (x0.length : Int)).bind fun t450 => ((rf_same.f t450 x0).bind fun t453 => (if t453 = true then (some (wrap64 (rd x0 2), wrap64 (rd x0 3), wrap64 (t443), strOfNums y444, (x0.length : Int), 0)) else (some (0, 0, 0, (⟨#[]⟩ : ByteArray), 0, 2))))) else (some (0, 0, 0, (⟨#[]⟩ : ByteArray), 0, 2))))) else (none)) else (none))) else (none)) else (none)) else (none)))) else (none)) else (some (0, 0, 0, (⟨#[]⟩ : ByteArray), 0, 8))))
def rf_ReadData.f (k : Nat) (l0 : List Int) : Option (Int × Int × Int × ByteArray × Int × Int) := if (l0.length : Int) < 64 then (rf_ReadData.j0 k l0 true) else (if (l0.length : Int) > 1518 then (rf_ReadData.j0 k l0 true) else (if 0 < (l0.length : Int) then (if (rd l0 0) = 8 then (if 1 < (l0.length : Int) then (rf_ReadData.j0 k l0 ((rd l0 1) != 0)) else (none)) else (rf_ReadData.j0 k l0 true)) else (none)))
theorem rf_ReadData.mono_l : ∀ k, (∀ y0 y1, LeO (rf_ReadData.j0 k y0 y1) (rf_ReadData.j0 (k + 1) y0 y1))
 | 0 => fun _ _ r h => by simp [rf_ReadData.j0] at h
 | k + 1 => by
  have ih0 := rf_ReadData.mono_l k
  ·intro y0 y1
   unfold rf_ReadData.j0
   repeat' first
   | (with_reducible exact ih0 _ _)
   | (with_reducible exact rf_Data.mono _ _ _ _ _ _)
   | (with_reducible exact rf_sum.mono _ _)
   | (with_reducible exact rf_value.mono _ _)
   | (with_reducible exact LeO.refl _)
   | (with_reducible exact LeO.none _)
   | (with_reducible refine LeO.ite ?_ ?_)
   | (with_reducible refine LeO.bind ?_ (fun _ => ?_))
   | exact ih0 _ _
   | exact rf_Data.mono _ _ _ _ _ _
   | exact rf_sum.mono _ _
   | exact rf_value.mono _ _
   | exact LeO.none _
   | refine LeO.ite ?_ ?_
   | refine LeO.bind ?_ (fun _ => ?_)
theorem rf_ReadData.mono : ∀ a0 k, LeO (rf_ReadData.f k a0) (rf_ReadData.f (k + 1) a0) := by
 intro a0 k
 have ih0 := rf_ReadData.mono_l k
 unfold rf_ReadData.f
 repeat' first
   | (with_reducible exact ih0 _ _)
   | (with_reducible exact rf_Data.mono _ _ _ _ _ _)
   | (with_reducible exact rf_sum.mono _ _)
   | (with_reducible exact rf_value.mono _ _)
   | (with_reducible exact LeO.refl _)
   | (with_reducible exact LeO.none _)
   | (with_reducible refine LeO.ite ?_ ?_)
   | (with_reducible refine LeO.bind ?_ (fun _ => ?_))
   | exact ih0 _ _
   | exact rf_Data.mono _ _ _ _ _ _
   | exact rf_sum.mono _ _
   | exact rf_value.mono _ _
   | exact LeO.none _
   | refine LeO.ite ?_ ?_
   | refine LeO.bind ?_ (fun _ => ?_)
def rf_ReadData.T8 : Bool × List (List Nat × List Nat) := (true, [([], []), ([0], [0]), ([1], [1]), ([2], [2]), ([], []), ([4], [4]), ([5], [5]), ([6], [6]), ([], []), ([8], [8]), ([9], [9]), ([10], [10]), ([], []), ([], []), ([13], [13]), ([12, 14], [12, 14]), ([15], [15]), ([], []), ([17], [17]), ([3, 7, 11, 16, 18], [3, 7, 11, 16, 18]), ([], []), ([20, 19, 10, 0, 1, 2, 3, 4, 5, 6, 7, 8, 9, 10, 11, 12, 13, 14, 15, 16, 17, 18, 19, 20], [19, 20])])
def rf_ReadData.B8 : List Nat := [0, 1, 3, 7, 0, 16, 48, 112, 0, 256, 768, 1792, 0, 0, 8192, 28672, 61440, 0, 131072, 524287, 0, 2097151]
theorem rf_ReadData.tab8 : rtab .any (opsOf Try.f22 8) = rf_ReadData.T8 := by kernel_rfl
theorem rf_ReadData.bits8 : waitsOk rf_ReadData.T8.2 rf_ReadData.B8 = true := by kernel_rfl
set_option maxHeartbeats 8000000 in
set_option maxRecDepth 100000 in
theorem rf_ReadData.calls (k : Nat) (A0 : Option Addr) (c0 : Nat) (l0 : List Int) (r1 : Int) (r2 : Int) (r3 : Int) (r4 : ByteArray) (r5 : Int) (r6 : Int) (w : World) (hr0 : Kd.C (Kd.int .u8) w A0 l0.length l0) (hc0 : l0.length ≤ c0) (h : rf_ReadData.f k l0 = some (r1, r2, r3, r4, r5, r6)) :
  Calls Try.prog 22 #[.slice A0 l0.length c0] w fun e w' => e = .returned (.tuple #[.agg #[.int .i64 r1, .int .i64 r2, .int .i64 r3, .string r4, .int .i64 r5], .int .i64 r6]) ∧ Below w.heap.size w w' := by
 have hu36 := Try.underlying36
 have HR0 := Azz.mk hr0
 have HC0 := Azz.mk hc0
 clear hr0 hc0
 have HB := Azz.mk (Below.refl w.heap.size w)
 have H : (if (l0.length : Int) < 64 then (rf_ReadData.j0 k l0 true) else (if (l0.length : Int) > 1518 then (rf_ReadData.j0 k l0 true) else (if 0 < (l0.length : Int) then (if (rd l0 0) = 8 then (if 1 < (l0.length : Int) then (rf_ReadData.j0 k l0 ((rd l0 1) != 0)) else (none)) else (rf_ReadData.j0 k l0 true)) else (none)))) = some (r1, r2, r3, r4, r5, r6) := h
 clear h
 have HC2 := Azz.mk H
 clear H
 go_enter Try.func22, Try.ntmps22
 go_upto_region 1 with (first | ((with_reducible refine gate_dst (N := 2) rfl ?_); (try (refine gate_guard (by rfl) ?_; dsimp only)); refine box_event ?hg (N := 2) ?hd (cs := #[.int .i64 0, .int .i64 0, .int .i64 0, .string (⟨#[]⟩ : ByteArray), .int .i64 0]) (t := 36) ?hr ?_; (case hd => rfl); (case hg => rfl); (case hr => first | (go_simp; done) | (go_simp; rfl)); intro gb428 hg w3 hbox hb; have n0_ := Azz.mk (below_step (by repeat (first | (with_reducible first | exact HB.out | apply bal | apply pbN | apply bd1) | exact HB.out)) hb); have n1_ := Azz.mk (hbox); have n2_ := Azz.mk ((by rw [hg]; exact (below_size (by repeat (first | (with_reducible first | exact HB.out | apply bal | apply pbN | apply bd1) | exact HB.out))) : w.heap.size ≤ gb428)); have n3_ := Azz.mk ((by rw [hg]; exact (below_size (by repeat (first | (with_reducible first | exact HB.out | apply bal | apply pbN | apply bd1) | exact HB.out))) : w.heap.size ≤ gb428)); clear HB; have HB := n0_; have BK428 := n1_; have GW428 := n2_; have GE428 := n3_; clear n0_ n1_ n2_ n3_; clear hb hbox hg))
 (try simp only [Act.put, List.setIfInBounds_toArray, List.set_cons_zero, List.set_cons_succ])
 go_cut [25] (fun v25 wc => ∃ (kq : Nat) (x25_1 : Bool), v25 = .bool x25_1 ∧ Azz (rf_ReadData.j0 kq l0 x25_1 = some (r1, r2, r3, r4, r5, r6)) ∧ Azz (kq ≤ k) ∧ Azz (wc.heap[gb428]? = some (.cells #[.int .i64 0, .int .i64 0, .int .i64 0, .string (⟨#[]⟩ : ByteArray), .int .i64 0] 36 (0, 0))) ∧ Azz (Below w.heap.size w wc))
 case first =>
  have H := HC2.out
  clear HC2
  by_cases c4 : (l0.length : Int) < 64
  ·rw [if_pos c4] at H
   have c4b0 : decide ((l0.length : Int) < 64) = true := decide_eq_true c4
   have c4b1 : decide (l0.length < 64) = true := decide_eq_true (by omega)
   clear c4
   (first | rw [c4b0] | (simp only [i64_w, i32_w]; rw [c4b0]) | skip)
   have H' := Azz.mk H
   clear H
   go_wp2
   go_meet
   case rel => exact ⟨_, (true), (by first | rfl | (simp; done) | (simp [*]; done)), H', ⟨by first | omega | exact Nat.le_refl _⟩, ⟨by (with_reducible repeat (first | refine kdN ?_ _ | refine kd1 ?_ | refine kal ?_ _)); exact BK428.out⟩, ⟨by repeat (first | (with_reducible first | exact HB.out | apply bal | apply pbN | apply bd1 | refine bst ?_ GE428.out) | exact HB.out)⟩⟩
  ·rw [if_neg c4] at H
   have c4b0 : decide ((l0.length : Int) < 64) = false := decide_eq_false c4
   have c4b1 : decide (l0.length < 64) = false := decide_eq_false (by omega)
   clear c4
   (first | rw [c4b0] | (simp only [i64_w, i32_w]; rw [c4b0]) | skip)
   by_cases c5 : (l0.length : Int) > 1518
   ·rw [if_pos c5] at H
    have c5b0 : decide (1518 < (l0.length : Int)) = true := decide_eq_true c5
    have c5b1 : decide (1518 < l0.length) = true := decide_eq_true (by omega)
    clear c5
    have H' := Azz.mk H
    clear H
    go_wp2
    go_meet
    case rel => exact ⟨_, (true), (by first | rfl | (simp; done) | (simp [*]; done)), H', ⟨by first | omega | exact Nat.le_refl _⟩, ⟨by (with_reducible repeat (first | refine kdN ?_ _ | refine kd1 ?_ | refine kal ?_ _)); exact BK428.out⟩, ⟨by repeat (first | (with_reducible first | exact HB.out | apply bal | apply pbN | apply bd1 | refine bst ?_ GE428.out) | exact HB.out)⟩⟩
   ·rw [if_neg c5] at H
    have c5b0 : decide (1518 < (l0.length : Int)) = false := decide_eq_false c5
    have c5b1 : decide (1518 < l0.length) = false := decide_eq_false (by omega)
    clear c5
    by_cases c6 : 0 < (l0.length : Int)
    ·rw [if_pos c6] at H
     have c6b0 : decide (0 < (l0.length : Int)) = true := decide_eq_true c6
     have c6b1 : decide (0 < l0.length) = true := decide_eq_true (by omega)
     clear c6
     by_cases c7 : (rd l0 0) = 8
     ·rw [if_pos c7] at H
      have c7b0 : ((rd l0 0) == 8) = true := beq_iff_eq.mpr c7
      have c7b1 : ((rd l0 0) != 8) = false := bne_eq_false_iff_eq.mpr c7
      clear c7
      by_cases c8 : 1 < (l0.length : Int)
      ·rw [if_pos c8] at H
       have c8b0 : decide (1 < (l0.length : Int)) = true := decide_eq_true c8
       have c8b1 : decide (1 < l0.length) = true := decide_eq_true (by omega)
       clear c8
       have H' := Azz.mk H
       clear H
       have p429 : 0 ≤ (0 : Int) := (by omega)
       have q429 : 0 < (l0.length : Int) := of_decide_eq_true (by first | (with_reducible assumption) | assumption)
       obtain ⟨ad429, e429, hx429_0⟩ := Kd.at_int HR0.out 0 p429 q429
       cases e429
       have qi429 : (0 < l0.length) = True := eq_true (by omega)
       (try rw [show ((0 : Int)).toNat = 0 from rfl] at hx429_0)
       (try rw [Addr.add_zero'] at hx429_0)
       replace hx429_0 := (HB.out.cell (World.block_lt_of_cell? w _ hx429_0)).trans hx429_0
       replace p429 := eq_true p429
       replace q429 := eq_true q429
       have p430 : 0 ≤ (1 : Int) := (by omega)
       have q430 : 1 < (l0.length : Int) := of_decide_eq_true (by first | (with_reducible assumption) | assumption)
       obtain ⟨ad430, e430, hx430_0⟩ := Kd.at_int HR0.out 1 p430 q430
       obtain rfl : ad429 = ad430 := (by injection e430)
       (try simp only [show (1 : Int).toNat = 1 from rfl, Nat.reduceMul, Nat.reduceEqDiff, Go.Addr.add, ↓reduceIte] at hx430_0)
       have qi430 : (1 < l0.length) = True := eq_true (by omega)
       (try rw [show ((1 : Int)).toNat = 1 from rfl] at hx430_0)
       replace hx430_0 := (HB.out.cell (World.block_lt_of_cell? w _ hx430_0)).trans hx430_0
       replace p430 := eq_true p430
       replace q430 := eq_true q430
       go_wp2
       go_meet
       case rel => exact ⟨_, (((rd l0 1) != 0)), (by first | rfl | (simp; done) | (simp [*]; done)), H', ⟨by first | omega | exact Nat.le_refl _⟩, ⟨by (with_reducible repeat (first | refine kdN ?_ _ | refine kd1 ?_ | refine kal ?_ _)); exact BK428.out⟩, ⟨by repeat (first | (with_reducible first | exact HB.out | apply bal | apply pbN | apply bd1 | refine bst ?_ GE428.out) | exact HB.out)⟩⟩
      ·rw [if_neg c8] at H
       exact absurd H (by simp)
     ·rw [if_neg c7] at H
      have c7b0 : ((rd l0 0) == 8) = false := beq_eq_false_iff_ne.mpr c7
      have c7b1 : ((rd l0 0) != 8) = true := bne_iff_ne.mpr c7
      have H' := Azz.mk H
      clear H
      have p429 : 0 ≤ (0 : Int) := (by omega)
      have q429 : 0 < (l0.length : Int) := of_decide_eq_true (by first | (with_reducible assumption) | assumption)
      obtain ⟨ad429, e429, hx429_0⟩ := Kd.at_int HR0.out 0 p429 q429
      cases e429
      have qi429 : (0 < l0.length) = True := eq_true (by omega)
      (try rw [show ((0 : Int)).toNat = 0 from rfl] at hx429_0)
      (try rw [Addr.add_zero'] at hx429_0)
      replace hx429_0 := (HB.out.cell (World.block_lt_of_cell? w _ hx429_0)).trans hx429_0
      replace p429 := eq_true p429
      replace q429 := eq_true q429
      go_wp2
      go_meet
      case rel => exact ⟨_, (true), (by first | rfl | (simp; done) | (simp [*]; done)), H', ⟨by first | omega | exact Nat.le_refl _⟩, ⟨by (with_reducible repeat (first | refine kdN ?_ _ | refine kd1 ?_ | refine kal ?_ _)); exact BK428.out⟩, ⟨by repeat (first | (with_reducible first | exact HB.out | apply bal | apply pbN | apply bd1 | refine bst ?_ GE428.out) | exact HB.out)⟩⟩
    ·rw [if_neg c6] at H
     exact absurd H (by simp)
 case rest =>
  clear HC2
  try clear c2
  try clear p2
  try clear c4
  try clear c4b0
  try clear c4b1
  try clear p4
  try clear q4
  try clear hx4
  try clear qi4
  try clear c5
  try clear c5b0
  try clear c5b1
  try clear c6
  try clear c6b0
  try clear c6b1
  try clear c7
  try clear c7b0
  try clear c7b1
  try clear c8
  try clear c8b0
  try clear c8b1
  try clear hx429_0
  try clear hx430_0
  try clear p429
  try clear p430
  try clear q429
  try clear q430
  obtain ⟨kq, x25_1, rfl, HA, HJ1, BK428, HB⟩ := hcut
  cases kq with
  | zero => exact absurd HA.out (by simp [rf_ReadData.j0])
  | succ kj1 =>
   have H := HA.out
   clear HA
   simp only [rf_ReadData.j0] at H
   by_cases c9 : x25_1 = true
   ·subst c9
    have H1 : (some (0, 0, 0, (⟨#[]⟩ : ByteArray), 0, 2)) = some (r1, r2, r3, r4, r5, r6) := by rw [if_pos rfl] at H; exact H
    clear H
    have H := H1
    clear H1
    simp only [Option.some.injEq, Prod.mk.injEq] at H
    obtain ⟨rfl, rfl, rfl, rfl, rfl, rfl⟩ := H
    have hcz10_0 : World.cell? _ ⟨gb428, 0, none⟩ = some (.int .i64 0) := (kcl BK428.out 0).trans rfl
    have hcz10_1 : World.cell? _ ⟨gb428, 1, none⟩ = some (.int .i64 0) := (kcl BK428.out 1).trans rfl
    have hcz10_2 : World.cell? _ ⟨gb428, 2, none⟩ = some (.int .i64 0) := (kcl BK428.out 2).trans rfl
    have hcz10_3 : World.cell? _ ⟨gb428, 3, none⟩ = some (.string (⟨#[]⟩ : ByteArray)) := (kcl BK428.out 3).trans rfl
    have hcz10_4 : World.cell? _ ⟨gb428, 4, none⟩ = some (.int .i64 0) := (kcl BK428.out 4).trans rfl
    have hfz10_0 := kfz BK428.out 0
    have hfz10_1 := kfz BK428.out 1
    have hfz10_2 := kfz BK428.out 2
    have hfz10_3 := kfz BK428.out 3
    have hfz10_4 := kfz BK428.out 4
    go_wp2
    refine bodyPost_ret (results_ct rfl _ _ gb428 36 #[.int .i64 0, .int .i64 0, .int .i64 0, .string (⟨#[]⟩ : ByteArray), .int .i64 0] (0, 0) _ rfl (by (with_reducible repeat (first | refine kdN ?_ _ | refine kd1 ?_ | refine kal ?_ _)); refine blk_put (cs := #[.int .i64 0, .int .i64 0, .int .i64 0, .string (⟨#[]⟩ : ByteArray), .int .i64 0]) ?_ 4 _ rfl; (with_reducible repeat (first | refine kdN ?_ _ | refine kd1 ?_ | refine kal ?_ _)); refine blk_put (cs := #[.int .i64 0, .int .i64 0, .int .i64 0, .string (⟨#[]⟩ : ByteArray), .int .i64 0]) ?_ 3 _ rfl; (with_reducible repeat (first | refine kdN ?_ _ | refine kd1 ?_ | refine kal ?_ _)); refine blk_put (cs := #[.int .i64 0, .int .i64 0, .int .i64 0, .string (⟨#[]⟩ : ByteArray), .int .i64 0]) ?_ 2 _ rfl; (with_reducible repeat (first | refine kdN ?_ _ | refine kd1 ?_ | refine kal ?_ _)); refine blk_put (cs := #[.int .i64 0, .int .i64 0, .int .i64 0, .string (⟨#[]⟩ : ByteArray), .int .i64 0]) ?_ 1 _ rfl; (with_reducible repeat (first | refine kdN ?_ _ | refine kd1 ?_ | refine kal ?_ _)); refine blk_put (cs := #[.int .i64 0, .int .i64 0, .int .i64 0, .string (⟨#[]⟩ : ByteArray), .int .i64 0]) ?_ 0 _ rfl; (with_reducible repeat (first | refine kdN ?_ _ | refine kd1 ?_ | refine kal ?_ _)); exact BK428.out) Try.underlying36 rfl (by kernel_rfl)) rfl ?_
    exact ⟨by first | rfl | (simp [errW_none, errW_some] <;> rfl) | (simp [*, errW_none, errW_some] <;> rfl), by repeat (first | (with_reducible first | exact HB.out | apply bal | apply pbN | apply bd1 | refine bst ?_ GE428.out) | exact HB.out)⟩
   ·replace c9 := Bool.eq_false_iff.mpr c9
    subst c9
    have H1 : ((rf_sum.f kj1 l0).bind fun t431 => (if t431 = true then (if 10 ≤ (l0.length : Int) then ((rf_value.f kj1 ((l0.take 10).drop 8)).bind fun t436 => (if (wrap64 (t436)) > (wrap64 ((l0.length : Int) - 14)) then (some (0, 0, 0, (⟨#[]⟩ : ByteArray), 0, 2)) else (if 2 < (l0.length : Int) then (if 3 < (l0.length : Int) then (if 8 ≤ (l0.length : Int) then ((rf_value.f kj1 ((l0.take 8).drop 4)).bind fun t443 => (if 10 ≤ (wrap64 (10 + (wrap64 (t436)))) then (if (wrap64 (10 + (wrap64 (t436)))) ≤ (l0.length : Int) then ((some ((l0.take ((wrap64 (10 + (wrap64 (t436)))) : Int).toNat).drop 10 : List Int)).bind fun y444 => ((rf_RightData.f (wrap64 (rd l0 2)) (wrap64 (rd l0 3)) (wrap64 (t443)) (strOfNums y444) (l0.length : Int)).bind fun t449 => (if t449 = true then ((rf_Data.f kj1 (wrap64 (rd l0 2)) (wrap64 (rd l0 3)) (wrap64 (t443)) (strOfNums y444) (l0.length : Int)).bind fun t450 => ((rf_same.f t450 l0).bind fun t453 => (if t453 = true then (some (wrap64 (rd l0 2), wrap64 (rd l0 3), wrap64 (t443), strOfNums y444, (l0.length : Int), 0)) else (some (0, 0, 0, (⟨#[]⟩ : ByteArray), 0, 2))))) else (some (0, 0, 0, (⟨#[]⟩ : ByteArray), 0, 2))))) else (none)) else (none))) else (none)) else (none)) else (none)))) else (none)) else (some (0, 0, 0, (⟨#[]⟩ : ByteArray), 0, 8)))) = some (r1, r2, r3, r4, r5, r6) := by rw [if_neg (show ¬ (false = true) by decide)] at H; exact H
    clear H
    have H := H1
    clear H1
    replace H := Option.bind_eq_some_iff.mp H
    obtain ⟨t431, A110, H⟩ := H
    replace H : (if t431 = true then (if 10 ≤ (l0.length : Int) then ((rf_value.f kj1 ((l0.take 10).drop 8)).bind fun t436 => (if (wrap64 (t436)) > (wrap64 ((l0.length : Int) - 14)) then (some (0, 0, 0, (⟨#[]⟩ : ByteArray), 0, 2)) else (if 2 < (l0.length : Int) then (if 3 < (l0.length : Int) then (if 8 ≤ (l0.length : Int) then ((rf_value.f kj1 ((l0.take 8).drop 4)).bind fun t443 => (if 10 ≤ (wrap64 (10 + (wrap64 (t436)))) then (if (wrap64 (10 + (wrap64 (t436)))) ≤ (l0.length : Int) then ((some ((l0.take ((wrap64 (10 + (wrap64 (t436)))) : Int).toNat).drop 10 : List Int)).bind fun y444 => ((rf_RightData.f (wrap64 (rd l0 2)) (wrap64 (rd l0 3)) (wrap64 (t443)) (strOfNums y444) (l0.length : Int)).bind fun t449 => (if t449 = true then ((rf_Data.f kj1 (wrap64 (rd l0 2)) (wrap64 (rd l0 3)) (wrap64 (t443)) (strOfNums y444) (l0.length : Int)).bind fun t450 => ((rf_same.f t450 l0).bind fun t453 => (if t453 = true then (some (wrap64 (rd l0 2), wrap64 (rd l0 3), wrap64 (t443), strOfNums y444, (l0.length : Int), 0)) else (some (0, 0, 0, (⟨#[]⟩ : ByteArray), 0, 2))))) else (some (0, 0, 0, (⟨#[]⟩ : ByteArray), 0, 2))))) else (none)) else (none))) else (none)) else (none)) else (none)))) else (none)) else (some (0, 0, 0, (⟨#[]⟩ : ByteArray), 0, 8))) = some (r1, r2, r3, r4, r5, r6) := H
    have A11 := Azz.mk A110
    clear A110
    by_cases c12 : t431 = true
    ·subst c12
     have H1 : (if 10 ≤ (l0.length : Int) then ((rf_value.f kj1 ((l0.take 10).drop 8)).bind fun t436 => (if (wrap64 (t436)) > (wrap64 ((l0.length : Int) - 14)) then (some (0, 0, 0, (⟨#[]⟩ : ByteArray), 0, 2)) else (if 2 < (l0.length : Int) then (if 3 < (l0.length : Int) then (if 8 ≤ (l0.length : Int) then ((rf_value.f kj1 ((l0.take 8).drop 4)).bind fun t443 => (if 10 ≤ (wrap64 (10 + (wrap64 (t436)))) then (if (wrap64 (10 + (wrap64 (t436)))) ≤ (l0.length : Int) then ((some ((l0.take ((wrap64 (10 + (wrap64 (t436)))) : Int).toNat).drop 10 : List Int)).bind fun y444 => ((rf_RightData.f (wrap64 (rd l0 2)) (wrap64 (rd l0 3)) (wrap64 (t443)) (strOfNums y444) (l0.length : Int)).bind fun t449 => (if t449 = true then ((rf_Data.f kj1 (wrap64 (rd l0 2)) (wrap64 (rd l0 3)) (wrap64 (t443)) (strOfNums y444) (l0.length : Int)).bind fun t450 => ((rf_same.f t450 l0).bind fun t453 => (if t453 = true then (some (wrap64 (rd l0 2), wrap64 (rd l0 3), wrap64 (t443), strOfNums y444, (l0.length : Int), 0)) else (some (0, 0, 0, (⟨#[]⟩ : ByteArray), 0, 2))))) else (some (0, 0, 0, (⟨#[]⟩ : ByteArray), 0, 2))))) else (none)) else (none))) else (none)) else (none)) else (none)))) else (none)) = some (r1, r2, r3, r4, r5, r6) := by rw [if_pos rfl] at H; exact H
     clear H
     have H := H1
     clear H1
     by_cases c13 : 10 ≤ (l0.length : Int)
     ·rw [if_pos c13] at H
      have c13b0 := eq_true c13
      have c13b1 : decide (10 ≤ (l0.length : Int)) = true := decide_eq_true c13
      clear c13
      obtain ⟨y432, hy432⟩ : ∃ y_ : List Int, y_ = ((l0.take 10).drop 8) := ⟨_, rfl⟩
      replace H : ((rf_value.f kj1 y432).bind fun t436 => (if (wrap64 (t436)) > (wrap64 ((l0.length : Int) - 14)) then (some (0, 0, 0, (⟨#[]⟩ : ByteArray), 0, 2)) else (if 2 < (l0.length : Int) then (if 3 < (l0.length : Int) then (if 8 ≤ (l0.length : Int) then ((rf_value.f kj1 ((l0.take 8).drop 4)).bind fun t443 => (if 10 ≤ (wrap64 (10 + (wrap64 (t436)))) then (if (wrap64 (10 + (wrap64 (t436)))) ≤ (l0.length : Int) then ((some ((l0.take ((wrap64 (10 + (wrap64 (t436)))) : Int).toNat).drop 10 : List Int)).bind fun y444 => ((rf_RightData.f (wrap64 (rd l0 2)) (wrap64 (rd l0 3)) (wrap64 (t443)) (strOfNums y444) (l0.length : Int)).bind fun t449 => (if t449 = true then ((rf_Data.f kj1 (wrap64 (rd l0 2)) (wrap64 (rd l0 3)) (wrap64 (t443)) (strOfNums y444) (l0.length : Int)).bind fun t450 => ((rf_same.f t450 l0).bind fun t453 => (if t453 = true then (some (wrap64 (rd l0 2), wrap64 (rd l0 3), wrap64 (t443), strOfNums y444, (l0.length : Int), 0)) else (some (0, 0, 0, (⟨#[]⟩ : ByteArray), 0, 2))))) else (some (0, 0, 0, (⟨#[]⟩ : ByteArray), 0, 2))))) else (none)) else (none))) else (none)) else (none)) else (none)))) = some (r1, r2, r3, r4, r5, r6) := by first | (rw [hy432]; with_reducible exact H) | (have H2_ := (Option.bind_some _ _).symm.trans H; rw [hy432]; with_reducible exact H2_) | (have H2_ := (Option.bind_some _ _).symm.trans H; with_reducible exact H2_) | with_reducible exact H | (rw [hy432]; exact H) | exact H
      have Ny432 := Azz.mk hy432
      clear hy432
      replace H := Option.bind_eq_some_iff.mp H
      obtain ⟨t436, A140, H⟩ := H
      replace H : (if (wrap64 (t436)) > (wrap64 ((l0.length : Int) - 14)) then (some (0, 0, 0, (⟨#[]⟩ : ByteArray), 0, 2)) else (if 2 < (l0.length : Int) then (if 3 < (l0.length : Int) then (if 8 ≤ (l0.length : Int) then ((rf_value.f kj1 ((l0.take 8).drop 4)).bind fun t443 => (if 10 ≤ (wrap64 (10 + (wrap64 (t436)))) then (if (wrap64 (10 + (wrap64 (t436)))) ≤ (l0.length : Int) then ((some ((l0.take ((wrap64 (10 + (wrap64 (t436)))) : Int).toNat).drop 10 : List Int)).bind fun y444 => ((rf_RightData.f (wrap64 (rd l0 2)) (wrap64 (rd l0 3)) (wrap64 (t443)) (strOfNums y444) (l0.length : Int)).bind fun t449 => (if t449 = true then ((rf_Data.f kj1 (wrap64 (rd l0 2)) (wrap64 (rd l0 3)) (wrap64 (t443)) (strOfNums y444) (l0.length : Int)).bind fun t450 => ((rf_same.f t450 l0).bind fun t453 => (if t453 = true then (some (wrap64 (rd l0 2), wrap64 (rd l0 3), wrap64 (t443), strOfNums y444, (l0.length : Int), 0)) else (some (0, 0, 0, (⟨#[]⟩ : ByteArray), 0, 2))))) else (some (0, 0, 0, (⟨#[]⟩ : ByteArray), 0, 2))))) else (none)) else (none))) else (none)) else (none)) else (none))) = some (r1, r2, r3, r4, r5, r6) := H
      have A14 := Azz.mk A140
      clear A140
      by_cases c15 : (wrap64 (t436)) > (wrap64 ((l0.length : Int) - 14))
      ·rw [if_pos c15] at H
       have c15b0 : decide ((wrap64 ((l0.length : Int) - 14)) < (wrap64 (t436))) = true := decide_eq_true c15
       clear c15
       simp only [Option.some.injEq, Prod.mk.injEq] at H
       obtain ⟨rfl, rfl, rfl, rfl, rfl, rfl⟩ := H
       go_wp2_with (first | ((with_reducible refine gate_callee (f := 35) rfl ?_); refine goesL_ (some 28) rfl rfl Try.func35 (by kernel_rfl) rfl #[.slice A0 l0.length c0] rfl (by (try simp only [List.map_toArray, List.map_cons, List.map_nil]); first | done | rfl | (simp only [List.length_drop, List.length_take]; rfl)) ?_; (with_reducible refine (rf_sum.calls kj1 _ _ l0 true _ ?side1 ?side2 A11.out).mono ?_); (case side1 => repeat (first | exact (Kd.C_below HR0.out HB.out) | (with_reducible refine Kd.C_alloc ?_ _) | (with_reducible refine Kd.C_drewN ?_ _) | (with_reducible refine Kd.C_drew ?_))); (case side2 => exact HC0.out); rintro e w' ⟨rfl, ⟨nd, rfl⟩⟩; refine ⟨_, rfl, ?_⟩; (try (rw [drewN_self wc]; generalize hq_ : World.drewN wc _ = wc; have n0_ : Azz (wc.heap[gb428]? = some (.cells #[.int .i64 0, .int .i64 0, .int .i64 0, .string (⟨#[]⟩ : ByteArray), .int .i64 0] 36 (0, 0))) := ⟨by rw [← hq_]; exact (by (with_reducible repeat (first | refine kdN ?_ _ | refine kd1 ?_ | refine kal ?_ _)); exact BK428.out)⟩; have n1_ : Azz (Below w.heap.size w wc) := ⟨by rw [← hq_]; exact (by repeat (first | (with_reducible first | exact HB.out | apply bal | apply pbN | apply bd1 | refine bst ?_ GE428.out) | exact HB.out))⟩; clear BK428 HB hq_; have BK428 := n0_; have HB := n1_; clear n0_ n1_)); have q16 : (10 : Int) ≤ ((l0.length : Int) : Int) := of_decide_eq_true (by first | (with_reducible assumption) | assumption); obtain ⟨i016, hi016, _, hsz16, _⟩ := info_parts info5; have hroom16 : l0.length ≤ c0 := HC0.out; have hC16 : Kd.C (Kd.int .u8) _ A0 l0.length l0 := HR0.out; have ql16 : (8 : Int) ≤ (10 : Int) := (by omega); have hcut16 := cut_mid (P := Try.prog) 26 5 .i64 .i64 Try.underlying26 hi016 1 hsz16 A0 l0.length c0 8 10 (by omega) ql16 q16 hroom16; have hr16 := Kd.C_mid (lo := (8 : Int).toNat) (hi := (10 : Int).toNat) (c := c0) hC16 (by omega) (by omega) hroom16; obtain ⟨A16, hA16⟩ : ∃ A1, A1 = (if c0 = (8 : Int).toNat then A0 else (A0 : Option Addr).map (·.add ((8 : Int).toNat * 1))) := ⟨_, rfl⟩; obtain ⟨c16, hc16⟩ : ∃ c1, c1 = c0 - (8 : Int).toNat := ⟨_, rfl⟩; have hy16 : y432.length = (10 : Int).toNat - (8 : Int).toNat := (by rw [Ny432.out, List.length_drop, List.length_take] <;> omega); rw [show ((l0).take (10 : Int).toNat).drop (8 : Int).toNat = y432 from Ny432.out.symm] at hr16; replace hr16 : Kd.C (Kd.int .u8) _ A16 y432.length y432 := (by rw [hA16]; exact hr16); rw [← hy16, ← hA16, ← hc16] at hcut16; have HR435 := Azz.mk hr16; have HC435 := Azz.mk (show y432.length ≤ c16 from by rw [hy16, hc16]; exact Nat.sub_le_sub_right (Nat.le_trans (by omega) hroom16) _); clear hr16 hC16 hroom16 hi016 hsz16 hc16; have KY16 := Azz.mk hy16; have KA16 := Azz.mk hA16; clear hy16 hA16; replace q16 := eq_true q16) | ((with_reducible refine gate_callee (f := 36) rfl ?_); refine goesL_ (some 33) rfl rfl Try.func36 (by kernel_rfl) rfl #[.slice A16 y432.length c16] rfl (by (try simp only [List.map_toArray, List.map_cons, List.map_nil]); first | done | rfl | (simp only [List.length_drop, List.length_take]; rfl)) ?_; (with_reducible refine (rf_value.calls kj1 _ _ y432 t436 _ ?side1 ?side2 A14.out).mono ?_); (case side1 => repeat (first | exact (Kd.C_below HR435.out HB.out) | (with_reducible refine Kd.C_alloc ?_ _) | (with_reducible refine Kd.C_drewN ?_ _) | (with_reducible refine Kd.C_drew ?_))); (case side2 => exact HC435.out); rintro e w' ⟨rfl, ⟨nd, rfl⟩⟩; refine ⟨_, rfl, ?_⟩; (try (rw [drewN_self wc]; generalize hq_ : World.drewN wc _ = wc; have n0_ : Azz (wc.heap[gb428]? = some (.cells #[.int .i64 0, .int .i64 0, .int .i64 0, .string (⟨#[]⟩ : ByteArray), .int .i64 0] 36 (0, 0))) := ⟨by rw [← hq_]; exact (by (with_reducible repeat (first | refine kdN ?_ _ | refine kd1 ?_ | refine kal ?_ _)); exact BK428.out)⟩; have n1_ : Azz (Below w.heap.size w wc) := ⟨by rw [← hq_]; exact (by repeat (first | (with_reducible first | exact HB.out | apply bal | apply pbN | apply bd1 | refine bst ?_ GE428.out) | exact HB.out))⟩; clear BK428 HB hq_; have BK428 := n0_; have HB := n1_; clear n0_ n1_)); have hcz17_0 : World.cell? _ ⟨gb428, 0, none⟩ = some (.int .i64 0) := (kcl BK428.out 0).trans rfl; have hcz17_1 : World.cell? _ ⟨gb428, 1, none⟩ = some (.int .i64 0) := (kcl BK428.out 1).trans rfl; have hcz17_2 : World.cell? _ ⟨gb428, 2, none⟩ = some (.int .i64 0) := (kcl BK428.out 2).trans rfl; have hcz17_3 : World.cell? _ ⟨gb428, 3, none⟩ = some (.string (⟨#[]⟩ : ByteArray)) := (kcl BK428.out 3).trans rfl; have hcz17_4 : World.cell? _ ⟨gb428, 4, none⟩ = some (.int .i64 0) := (kcl BK428.out 4).trans rfl; have hfz17_0 := kfz BK428.out 0; have hfz17_1 := kfz BK428.out 1; have hfz17_2 := kfz BK428.out 2; have hfz17_3 := kfz BK428.out 3; have hfz17_4 := kfz BK428.out 4))
       refine bodyPost_ret (results_ct rfl _ _ gb428 36 #[.int .i64 0, .int .i64 0, .int .i64 0, .string (⟨#[]⟩ : ByteArray), .int .i64 0] (0, 0) _ rfl (by (with_reducible repeat (first | refine kdN ?_ _ | refine kd1 ?_ | refine kal ?_ _)); refine blk_put (cs := #[.int .i64 0, .int .i64 0, .int .i64 0, .string (⟨#[]⟩ : ByteArray), .int .i64 0]) ?_ 4 _ rfl; (with_reducible repeat (first | refine kdN ?_ _ | refine kd1 ?_ | refine kal ?_ _)); refine blk_put (cs := #[.int .i64 0, .int .i64 0, .int .i64 0, .string (⟨#[]⟩ : ByteArray), .int .i64 0]) ?_ 3 _ rfl; (with_reducible repeat (first | refine kdN ?_ _ | refine kd1 ?_ | refine kal ?_ _)); refine blk_put (cs := #[.int .i64 0, .int .i64 0, .int .i64 0, .string (⟨#[]⟩ : ByteArray), .int .i64 0]) ?_ 2 _ rfl; (with_reducible repeat (first | refine kdN ?_ _ | refine kd1 ?_ | refine kal ?_ _)); refine blk_put (cs := #[.int .i64 0, .int .i64 0, .int .i64 0, .string (⟨#[]⟩ : ByteArray), .int .i64 0]) ?_ 1 _ rfl; (with_reducible repeat (first | refine kdN ?_ _ | refine kd1 ?_ | refine kal ?_ _)); refine blk_put (cs := #[.int .i64 0, .int .i64 0, .int .i64 0, .string (⟨#[]⟩ : ByteArray), .int .i64 0]) ?_ 0 _ rfl; (with_reducible repeat (first | refine kdN ?_ _ | refine kd1 ?_ | refine kal ?_ _)); exact BK428.out) Try.underlying36 rfl (by kernel_rfl)) rfl ?_
       exact ⟨by first | rfl | (simp [errW_none, errW_some] <;> rfl) | (simp [*, errW_none, errW_some] <;> rfl), by repeat (first | (with_reducible first | exact HB.out | apply bal | apply pbN | apply bd1 | refine bst ?_ GE428.out) | exact HB.out)⟩
      ·rw [if_neg c15] at H
       have c15b0 : decide ((wrap64 ((l0.length : Int) - 14)) < (wrap64 (t436))) = false := decide_eq_false c15
       clear c15
       by_cases c18 : 2 < (l0.length : Int)
       ·rw [if_pos c18] at H
        have c18b0 : decide (2 < (l0.length : Int)) = true := decide_eq_true c18
        have c18b1 : decide (2 < l0.length) = true := decide_eq_true (by omega)
        clear c18
        by_cases c19 : 3 < (l0.length : Int)
        ·rw [if_pos c19] at H
         have c19b0 : decide (3 < (l0.length : Int)) = true := decide_eq_true c19
         have c19b1 : decide (3 < l0.length) = true := decide_eq_true (by omega)
         clear c19
         by_cases c20 : 8 ≤ (l0.length : Int)
         ·rw [if_pos c20] at H
          have c20b0 := eq_true c20
          have c20b1 : decide (8 ≤ (l0.length : Int)) = true := decide_eq_true c20
          clear c20
          obtain ⟨y439, hy439⟩ : ∃ y_ : List Int, y_ = ((l0.take 8).drop 4) := ⟨_, rfl⟩
          replace H : ((rf_value.f kj1 y439).bind fun t443 => (if 10 ≤ (wrap64 (10 + (wrap64 (t436)))) then (if (wrap64 (10 + (wrap64 (t436)))) ≤ (l0.length : Int) then ((some ((l0.take ((wrap64 (10 + (wrap64 (t436)))) : Int).toNat).drop 10 : List Int)).bind fun y444 => ((rf_RightData.f (wrap64 (rd l0 2)) (wrap64 (rd l0 3)) (wrap64 (t443)) (strOfNums y444) (l0.length : Int)).bind fun t449 => (if t449 = true then ((rf_Data.f kj1 (wrap64 (rd l0 2)) (wrap64 (rd l0 3)) (wrap64 (t443)) (strOfNums y444) (l0.length : Int)).bind fun t450 => ((rf_same.f t450 l0).bind fun t453 => (if t453 = true then (some (wrap64 (rd l0 2), wrap64 (rd l0 3), wrap64 (t443), strOfNums y444, (l0.length : Int), 0)) else (some (0, 0, 0, (⟨#[]⟩ : ByteArray), 0, 2))))) else (some (0, 0, 0, (⟨#[]⟩ : ByteArray), 0, 2))))) else (none)) else (none))) = some (r1, r2, r3, r4, r5, r6) := by first | (rw [hy439]; with_reducible exact H) | (have H2_ := (Option.bind_some _ _).symm.trans H; rw [hy439]; with_reducible exact H2_) | (have H2_ := (Option.bind_some _ _).symm.trans H; with_reducible exact H2_) | with_reducible exact H | (rw [hy439]; exact H) | exact H
          have Ny439 := Azz.mk hy439
          clear hy439
          replace H := Option.bind_eq_some_iff.mp H
          obtain ⟨t443, A210, H⟩ := H
          replace H : (if 10 ≤ (wrap64 (10 + (wrap64 (t436)))) then (if (wrap64 (10 + (wrap64 (t436)))) ≤ (l0.length : Int) then ((some ((l0.take ((wrap64 (10 + (wrap64 (t436)))) : Int).toNat).drop 10 : List Int)).bind fun y444 => ((rf_RightData.f (wrap64 (rd l0 2)) (wrap64 (rd l0 3)) (wrap64 (t443)) (strOfNums y444) (l0.length : Int)).bind fun t449 => (if t449 = true then ((rf_Data.f kj1 (wrap64 (rd l0 2)) (wrap64 (rd l0 3)) (wrap64 (t443)) (strOfNums y444) (l0.length : Int)).bind fun t450 => ((rf_same.f t450 l0).bind fun t453 => (if t453 = true then (some (wrap64 (rd l0 2), wrap64 (rd l0 3), wrap64 (t443), strOfNums y444, (l0.length : Int), 0)) else (some (0, 0, 0, (⟨#[]⟩ : ByteArray), 0, 2))))) else (some (0, 0, 0, (⟨#[]⟩ : ByteArray), 0, 2))))) else (none)) else (none)) = some (r1, r2, r3, r4, r5, r6) := H
          have A21 := Azz.mk A210
          clear A210
          by_cases c22 : 10 ≤ (wrap64 (10 + (wrap64 (t436))))
          ·rw [if_pos c22] at H
           have c22b0 := eq_true c22
           have c22b1 : decide (10 ≤ (wrap64 (10 + (wrap64 (t436))))) = true := decide_eq_true c22
           by_cases c23 : (wrap64 (10 + (wrap64 (t436)))) ≤ (l0.length : Int)
           ·rw [if_pos c23] at H
            have c23b0 := eq_true c23
            have c23b1 : decide ((wrap64 (10 + (wrap64 (t436)))) ≤ (l0.length : Int)) = true := decide_eq_true c23
            obtain ⟨y444, hy444⟩ : ∃ y_ : List Int, y_ = ((l0.take ((wrap64 (10 + (wrap64 (t436)))) : Int).toNat).drop 10) := ⟨_, rfl⟩
            replace H : ((rf_RightData.f (wrap64 (rd l0 2)) (wrap64 (rd l0 3)) (wrap64 (t443)) (strOfNums y444) (l0.length : Int)).bind fun t449 => (if t449 = true then ((rf_Data.f kj1 (wrap64 (rd l0 2)) (wrap64 (rd l0 3)) (wrap64 (t443)) (strOfNums y444) (l0.length : Int)).bind fun t450 => ((rf_same.f t450 l0).bind fun t453 => (if t453 = true then (some (wrap64 (rd l0 2), wrap64 (rd l0 3), wrap64 (t443), strOfNums y444, (l0.length : Int), 0)) else (some (0, 0, 0, (⟨#[]⟩ : ByteArray), 0, 2))))) else (some (0, 0, 0, (⟨#[]⟩ : ByteArray), 0, 2)))) = some (r1, r2, r3, r4, r5, r6) := by first | (rw [hy444]; with_reducible exact H) | (have H2_ := (Option.bind_some _ _).symm.trans H; rw [hy444]; with_reducible exact H2_) | (have H2_ := (Option.bind_some _ _).symm.trans H; with_reducible exact H2_) | with_reducible exact H | (rw [hy444]; exact H) | exact H
            have Ny444 := Azz.mk hy444
            clear hy444
            replace H := Option.bind_eq_some_iff.mp H
            obtain ⟨t449, A240, H⟩ := H
            replace H : (if t449 = true then ((rf_Data.f kj1 (wrap64 (rd l0 2)) (wrap64 (rd l0 3)) (wrap64 (t443)) (strOfNums y444) (l0.length : Int)).bind fun t450 => ((rf_same.f t450 l0).bind fun t453 => (if t453 = true then (some (wrap64 (rd l0 2), wrap64 (rd l0 3), wrap64 (t443), strOfNums y444, (l0.length : Int), 0)) else (some (0, 0, 0, (⟨#[]⟩ : ByteArray), 0, 2))))) else (some (0, 0, 0, (⟨#[]⟩ : ByteArray), 0, 2))) = some (r1, r2, r3, r4, r5, r6) := H
            have A24 := Azz.mk A240
            clear A240
            by_cases c25 : t449 = true
            ·subst c25
             have H1 : ((rf_Data.f kj1 (wrap64 (rd l0 2)) (wrap64 (rd l0 3)) (wrap64 (t443)) (strOfNums y444) (l0.length : Int)).bind fun t450 => ((rf_same.f t450 l0).bind fun t453 => (if t453 = true then (some (wrap64 (rd l0 2), wrap64 (rd l0 3), wrap64 (t443), strOfNums y444, (l0.length : Int), 0)) else (some (0, 0, 0, (⟨#[]⟩ : ByteArray), 0, 2))))) = some (r1, r2, r3, r4, r5, r6) := by rw [if_pos rfl] at H; exact H
             clear H
             have H := H1
             clear H1
             replace H := Option.bind_eq_some_iff.mp H
             obtain ⟨t450, A260, H⟩ := H
             replace H : ((rf_same.f t450 l0).bind fun t453 => (if t453 = true then (some (wrap64 (rd l0 2), wrap64 (rd l0 3), wrap64 (t443), strOfNums y444, (l0.length : Int), 0)) else (some (0, 0, 0, (⟨#[]⟩ : ByteArray), 0, 2)))) = some (r1, r2, r3, r4, r5, r6) := H
             have A26 := Azz.mk A260
             clear A260
             replace H := Option.bind_eq_some_iff.mp H
             obtain ⟨t453, A270, H⟩ := H
             replace H : (if t453 = true then (some (wrap64 (rd l0 2), wrap64 (rd l0 3), wrap64 (t443), strOfNums y444, (l0.length : Int), 0)) else (some (0, 0, 0, (⟨#[]⟩ : ByteArray), 0, 2))) = some (r1, r2, r3, r4, r5, r6) := H
             have A27 := Azz.mk A270
             clear A270
             by_cases c28 : t453 = true
             ·subst c28
              have H1 : (some (wrap64 (rd l0 2), wrap64 (rd l0 3), wrap64 (t443), strOfNums y444, (l0.length : Int), 0)) = some (r1, r2, r3, r4, r5, r6) := by rw [if_pos rfl] at H; exact H
              clear H
              have H := H1
              clear H1
              simp only [Option.some.injEq, Prod.mk.injEq] at H
              obtain ⟨rfl, rfl, rfl, rfl, rfl, rfl⟩ := H
              try go_wp2_with (first | ((with_reducible refine gate_callee (f := 35) rfl ?_); refine goesL_ (some 28) rfl rfl Try.func35 (by kernel_rfl) rfl #[.slice A0 l0.length c0] rfl (by (try simp only [List.map_toArray, List.map_cons, List.map_nil]); first | done | rfl | (simp only [List.length_drop, List.length_take]; rfl)) ?_; (with_reducible refine (rf_sum.calls kj1 _ _ l0 true _ ?side1 ?side2 A11.out).mono ?_); (case side1 => repeat (first | exact (Kd.C_below HR0.out HB.out) | (with_reducible refine Kd.C_alloc ?_ _) | (with_reducible refine Kd.C_drewN ?_ _) | (with_reducible refine Kd.C_drew ?_))); (case side2 => exact HC0.out); rintro e w' ⟨rfl, ⟨nd, rfl⟩⟩; refine ⟨_, rfl, ?_⟩; (try (rw [drewN_self wc]; generalize hq_ : World.drewN wc _ = wc; have n0_ : Azz (wc.heap[gb428]? = some (.cells #[.int .i64 0, .int .i64 0, .int .i64 0, .string (⟨#[]⟩ : ByteArray), .int .i64 0] 36 (0, 0))) := ⟨by rw [← hq_]; exact (by (with_reducible repeat (first | refine kdN ?_ _ | refine kd1 ?_ | refine kal ?_ _)); exact BK428.out)⟩; have n1_ : Azz (Below w.heap.size w wc) := ⟨by rw [← hq_]; exact (by repeat (first | (with_reducible first | exact HB.out | apply bal | apply pbN | apply bd1 | refine bst ?_ GE428.out) | exact HB.out))⟩; clear BK428 HB hq_; have BK428 := n0_; have HB := n1_; clear n0_ n1_)); have q29 : (10 : Int) ≤ ((l0.length : Int) : Int) := of_decide_eq_true (by first | (with_reducible assumption) | assumption); obtain ⟨i029, hi029, _, hsz29, _⟩ := info_parts info5; have hroom29 : l0.length ≤ c0 := HC0.out; have hC29 : Kd.C (Kd.int .u8) _ A0 l0.length l0 := HR0.out; have ql29 : (8 : Int) ≤ (10 : Int) := (by omega); have hcut29 := cut_mid (P := Try.prog) 26 5 .i64 .i64 Try.underlying26 hi029 1 hsz29 A0 l0.length c0 8 10 (by omega) ql29 q29 hroom29; have hr29 := Kd.C_mid (lo := (8 : Int).toNat) (hi := (10 : Int).toNat) (c := c0) hC29 (by omega) (by omega) hroom29; obtain ⟨A29, hA29⟩ : ∃ A1, A1 = (if c0 = (8 : Int).toNat then A0 else (A0 : Option Addr).map (·.add ((8 : Int).toNat * 1))) := ⟨_, rfl⟩; obtain ⟨c29, hc29⟩ : ∃ c1, c1 = c0 - (8 : Int).toNat := ⟨_, rfl⟩; have hy29 : y432.length = (10 : Int).toNat - (8 : Int).toNat := (by rw [Ny432.out, List.length_drop, List.length_take] <;> omega); rw [show ((l0).take (10 : Int).toNat).drop (8 : Int).toNat = y432 from Ny432.out.symm] at hr29; replace hr29 : Kd.C (Kd.int .u8) _ A29 y432.length y432 := (by rw [hA29]; exact hr29); rw [← hy29, ← hA29, ← hc29] at hcut29; have HR435 := Azz.mk hr29; have HC435 := Azz.mk (show y432.length ≤ c29 from by rw [hy29, hc29]; exact Nat.sub_le_sub_right (Nat.le_trans (by omega) hroom29) _); clear hr29 hC29 hroom29 hi029 hsz29 hc29; have KY29 := Azz.mk hy29; have KA29 := Azz.mk hA29; clear hy29 hA29; replace q29 := eq_true q29) | ((with_reducible refine gate_callee (f := 36) rfl ?_); refine goesL_ (some 33) rfl rfl Try.func36 (by kernel_rfl) rfl #[.slice A29 y432.length c29] rfl (by (try simp only [List.map_toArray, List.map_cons, List.map_nil]); first | done | rfl | (simp only [List.length_drop, List.length_take]; rfl)) ?_; (with_reducible refine (rf_value.calls kj1 _ _ y432 t436 _ ?side1 ?side2 A14.out).mono ?_); (case side1 => repeat (first | exact (Kd.C_below HR435.out HB.out) | (with_reducible refine Kd.C_alloc ?_ _) | (with_reducible refine Kd.C_drewN ?_ _) | (with_reducible refine Kd.C_drew ?_))); (case side2 => exact HC435.out); rintro e w' ⟨rfl, ⟨nd, rfl⟩⟩; refine ⟨_, rfl, ?_⟩; (try (rw [drewN_self wc]; generalize hq_ : World.drewN wc _ = wc; have n0_ : Azz (wc.heap[gb428]? = some (.cells #[.int .i64 0, .int .i64 0, .int .i64 0, .string (⟨#[]⟩ : ByteArray), .int .i64 0] 36 (0, 0))) := ⟨by rw [← hq_]; exact (by (with_reducible repeat (first | refine kdN ?_ _ | refine kd1 ?_ | refine kal ?_ _)); exact BK428.out)⟩; have n1_ : Azz (Below w.heap.size w wc) := ⟨by rw [← hq_]; exact (by repeat (first | (with_reducible first | exact HB.out | apply bal | apply pbN | apply bd1 | refine bst ?_ GE428.out) | exact HB.out))⟩; clear BK428 HB hq_; have BK428 := n0_; have HB := n1_; clear n0_ n1_))))
              have n0_ := Azz.mk (kd1 BK428.out)
              have n1_ := Azz.mk (bd1 HB.out)
              clear BK428
              clear HB
              have BK428 := n0_
              have HB := n1_
              clear n0_ n1_
              have p437 : 0 ≤ (2 : Int) := (by omega)
              have q437 : 2 < (l0.length : Int) := of_decide_eq_true (by first | (with_reducible assumption) | assumption)
              obtain ⟨ad437, e437, hx437_0⟩ := Kd.at_int HR0.out 2 p437 q437
              have hw437_0 := hx437_0
              (try rw [show ((2 : Int)).toNat = 2 from rfl] at hw437_0)
              (try rw [show 2 * 1 = 2 from rfl] at hw437_0)
              (try simp only [Nat.reduceMul, Nat.reduceEqDiff, Go.Addr.add, ↓reduceIte] at hw437_0)
              cases e437
              (try simp only [show (2 : Int).toNat = 2 from rfl, Nat.reduceMul, Nat.reduceEqDiff, Go.Addr.add, ↓reduceIte] at hx437_0)
              have qi437 : (2 < l0.length) = True := eq_true (by omega)
              (try rw [show ((2 : Int)).toNat = 2 from rfl] at hx437_0)
              replace hx437_0 := (HB.out.cell (World.block_lt_of_cell? w _ hx437_0)).trans hx437_0
              replace p437 := eq_true p437
              replace q437 := eq_true q437
              have p438 : 0 ≤ (3 : Int) := (by omega)
              have q438 : 3 < (l0.length : Int) := of_decide_eq_true (by first | (with_reducible assumption) | assumption)
              obtain ⟨ad438, e438, hx438_0⟩ := Kd.at_int HR0.out 3 p438 q438
              have hw438_0 := hx438_0
              (try rw [show ((3 : Int)).toNat = 3 from rfl] at hw438_0)
              (try rw [show 3 * 1 = 3 from rfl] at hw438_0)
              (try simp only [Nat.reduceMul, Nat.reduceEqDiff, Go.Addr.add, ↓reduceIte] at hw438_0)
              obtain rfl : ad437 = ad438 := (by injection e438)
              (try simp only [show (3 : Int).toNat = 3 from rfl, Nat.reduceMul, Nat.reduceEqDiff, Go.Addr.add, ↓reduceIte] at hx438_0)
              have qi438 : (3 < l0.length) = True := eq_true (by omega)
              (try rw [show ((3 : Int)).toNat = 3 from rfl] at hx438_0)
              replace hx438_0 := (HB.out.cell (World.block_lt_of_cell? w _ hx438_0)).trans hx438_0
              replace p438 := eq_true p438
              replace q438 := eq_true q438
              have q31 : (8 : Int) ≤ ((l0.length : Int) : Int) := of_decide_eq_true (by first | (with_reducible assumption) | assumption)
              obtain ⟨i031, hi031, _, hsz31, _⟩ := info_parts info5
              have hroom31 : l0.length ≤ c0 := HC0.out
              have hC31 : Kd.C (Kd.int .u8) _ (some ad437) l0.length l0 := HR0.out
              have ql31 : (4 : Int) ≤ (8 : Int) := (by omega)
              have hcut31 := cut_mid (P := Try.prog) 26 5 .i64 .i64 Try.underlying26 hi031 1 hsz31 (some ad437) l0.length c0 4 8 (by omega) ql31 q31 hroom31
              have hr31 := Kd.C_mid (lo := (4 : Int).toNat) (hi := (8 : Int).toNat) (c := c0) hC31 (by omega) (by omega) hroom31
              obtain ⟨A31, hA31⟩ : ∃ A1, A1 = (if c0 = (4 : Int).toNat then (some ad437) else ((some ad437) : Option Addr).map (·.add ((4 : Int).toNat * 1))) := ⟨_, rfl⟩
              obtain ⟨c31, hc31⟩ : ∃ c1, c1 = c0 - (4 : Int).toNat := ⟨_, rfl⟩
              have hy31 : y439.length = (8 : Int).toNat - (4 : Int).toNat := (by rw [Ny439.out, List.length_drop, List.length_take] <;> omega)
              rw [show ((l0).take (8 : Int).toNat).drop (4 : Int).toNat = y439 from Ny439.out.symm] at hr31
              replace hr31 : Kd.C (Kd.int .u8) _ A31 y439.length y439 := (by rw [hA31]; exact hr31)
              rw [← hy31, ← hA31, ← hc31] at hcut31
              have HR442 := Azz.mk hr31
              have HC442 := Azz.mk (show y439.length ≤ c31 from by rw [hy31, hc31]; exact Nat.sub_le_sub_right (Nat.le_trans (by omega) hroom31) _)
              clear hr31 hC31 hroom31 hi031 hsz31 hc31
              have KY31 := Azz.mk hy31
              have KA31 := Azz.mk hA31
              clear hy31 hA31
              replace q31 := eq_true q31
              have q32 : ((wrap64 (10 + (wrap64 (t436)))) : Int) ≤ ((l0.length : Int) : Int) := of_decide_eq_true (by first | (with_reducible assumption) | assumption)
              obtain ⟨i032, hi032, _, hsz32, _⟩ := info_parts info5
              have hroom32 : l0.length ≤ c0 := HC0.out
              have hC32 : Kd.C (Kd.int .u8) _ (some ad437) l0.length l0 := HR0.out
              have ql32 : (10 : Int) ≤ ((wrap64 (10 + (wrap64 (t436)))) : Int) := of_decide_eq_true (by first | (with_reducible assumption) | assumption)
              have hcut32 := cut_mid (P := Try.prog) 26 5 .i64 .i64 Try.underlying26 hi032 1 hsz32 (some ad437) l0.length c0 10 (wrap64 (10 + (wrap64 (t436)))) (by omega) ql32 q32 hroom32
              have hr32 := Kd.C_mid (lo := (10 : Int).toNat) (hi := ((wrap64 (10 + (wrap64 (t436)))) : Int).toNat) (c := c0) hC32 (by omega) (by omega) hroom32
              obtain ⟨A32, hA32⟩ : ∃ A1, A1 = (if c0 = (10 : Int).toNat then (some ad437) else ((some ad437) : Option Addr).map (·.add ((10 : Int).toNat * 1))) := ⟨_, rfl⟩
              obtain ⟨c32, hc32⟩ : ∃ c1, c1 = c0 - (10 : Int).toNat := ⟨_, rfl⟩
              have hy32 : y444.length = ((wrap64 (10 + (wrap64 (t436)))) : Int).toNat - (10 : Int).toNat := (by rw [Ny444.out, List.length_drop, List.length_take] <;> omega)
              rw [show ((l0).take ((wrap64 (10 + (wrap64 (t436)))) : Int).toNat).drop (10 : Int).toNat = y444 from Ny444.out.symm] at hr32
              replace hr32 : Kd.C (Kd.int .u8) _ A32 y444.length y444 := (by rw [hA32]; exact hr32)
              rw [← hy32, ← hA32, ← hc32] at hcut32
              have HR447 := Azz.mk hr32
              have HC447 := Azz.mk (show y444.length ≤ c32 from by rw [hy32, hc32]; exact Nat.sub_le_sub_right (Nat.le_trans (by omega) hroom32) _)
              clear hr32 hC32 hroom32 hi032 hsz32 hc32
              have KY32 := Azz.mk hy32
              have KA32 := Azz.mk hA32
              clear hy32 hA32
              replace q32 := eq_true q32
              refine start_ (n := 22) (S := fun w' => w'.cell? ⟨ad437.block, ad437.off + 2, none⟩ = some (.int .u8 (rd l0 2)) ∧ w'.cell? ⟨ad437.block, ad437.off + 3, none⟩ = some (.int .u8 (rd l0 3)) ∧ Sem.run Try.prog (convert 26 9 (.slice A32 y444.length c32)) w' = .ok (.string (strOfNums y444)) w') (ds := []) #[false, false, false, false, false, false, false, false, false, false, false, false, false, false, false, false, false, false, false, false, false, false] (by kernel_rfl) rfl rfl ⟨((HB.out.cell (World.block_lt_of_cell? w _ hw437_0)).trans hw437_0), ((HB.out.cell (World.block_lt_of_cell? w _ hw438_0)).trans hw438_0), (Kd.C_string (P := Try.prog) (A := A32) (c := c32) Try.underlying26 Try.underlying5 Try.underlying9 (Kd.C_below HR447.out (by repeat (first | (with_reducible first | exact HB.out | apply bal | apply pbN | apply bd1 | refine bst ?_ GE428.out) | exact HB.out))))⟩ (fun hHeld => ?_); refine with_tabW rf_ReadData.tab8 rf_ReadData.bits8 (fun HT_ HW_ => ?_)
              generalize wc.drew = w30 at BK428 HB HR442 HR447 hx437_0 hx438_0 hHeld ⊢
              refine pure_ (i := 0) (N := some 41) (v := ?_) (a' := ?_) #[true, false, false, false, false, false, false, false, false, false, false, false, false, false, false, false, false, false, false, false, false, false] rfl rfl (any_of HT_.out (by kernel_rfl)) (fun _ _ _ h => h) (Or.inl ⟨by rfl, ?_⟩) ?_ ?_
              rotate_left
              ·intro w'
               go_simp
               with_reducible rfl
              rotate_left
              ·simp only [Act.put, List.setIfInBounds_toArray, List.set_cons_zero, List.set_cons_succ, i64_w, i32_w]
               rfl
              refine pure_ (i := 1) (N := some 42) (v := ?_) (a' := ?_) #[true, true, false, false, false, false, false, false, false, false, false, false, false, false, false, false, false, false, false, false, false, false] rfl rfl (any_of HT_.out (by kernel_rfl)) (fun _ _ _ h => h) (Or.inl ⟨by rfl, ?_⟩) ?_ ?_
              rotate_left
              ·intro w'
               go_simp
               with_reducible rfl
              rotate_left
              ·simp only [Act.put, List.setIfInBounds_toArray, List.set_cons_zero, List.set_cons_succ, i64_w, i32_w]
               rfl
              refine pure_ (i := 4) (N := some 45) (v := ?_) (a' := ?_) #[true, true, false, false, true, false, false, false, false, false, false, false, false, false, false, false, false, false, false, false, false, false] rfl rfl (any_of HT_.out (by kernel_rfl)) (fun _ _ _ h => h) (Or.inl ⟨by rfl, ?_⟩) ?_ ?_
              rotate_left
              ·intro w'
               go_simp
               with_reducible rfl
              rotate_left
              ·simp only [Act.put, List.setIfInBounds_toArray, List.set_cons_zero, List.set_cons_succ, i64_w, i32_w]
               rfl
              refine pure_ (i := 5) (N := some 46) (v := ?_) (a' := ?_) #[true, true, false, false, true, true, false, false, false, false, false, false, false, false, false, false, false, false, false, false, false, false] rfl rfl (any_of HT_.out (by kernel_rfl)) (fun _ _ _ h => h) (Or.inl ⟨by rfl, ?_⟩) ?_ ?_
              rotate_left
              ·intro w'
               go_simp
               with_reducible rfl
              rotate_left
              ·simp only [Act.put, List.setIfInBounds_toArray, List.set_cons_zero, List.set_cons_succ, i64_w, i32_w]
               rfl
              refine pure_ (i := 8) (N := some 49) (v := ?_) (a' := ?_) #[true, true, false, false, true, true, false, false, true, false, false, false, false, false, false, false, false, false, false, false, false, false] rfl rfl (any_of HT_.out (by kernel_rfl)) (fun _ _ _ h => h) (Or.inl ⟨by rfl, ?_⟩) ?_ ?_
              rotate_left
              ·intro w'
               go_simp
               with_reducible rfl
              rotate_left
              ·simp only [Act.put, List.setIfInBounds_toArray, List.set_cons_zero, List.set_cons_succ, i64_w, i32_w]
               rfl
              refine pure_ (i := 9) (N := some 50) (v := ?_) (a' := ?_) #[true, true, false, false, true, true, false, false, true, true, false, false, false, false, false, false, false, false, false, false, false, false] rfl rfl (any_of HT_.out (by kernel_rfl)) (fun _ _ _ h => h) (Or.inl ⟨by rfl, ?_⟩) ?_ ?_
              rotate_left
              ·intro w'
               go_simp
               with_reducible rfl
              rotate_left
              ·simp only [Act.put, List.setIfInBounds_toArray, List.set_cons_zero, List.set_cons_succ, i64_w, i32_w]
               rfl
              refine pure_ (i := 12) (N := some 53) (v := ?_) (a' := ?_) #[true, true, false, false, true, true, false, false, true, true, false, false, true, false, false, false, false, false, false, false, false, false] rfl rfl (any_of HT_.out (by kernel_rfl)) (fun _ _ _ h => h) (Or.inl ⟨by rfl, ?_⟩) ?_ ?_
              rotate_left
              ·intro w'
               go_simp
               with_reducible rfl
              rotate_left
              ·simp only [Act.put, List.setIfInBounds_toArray, List.set_cons_zero, List.set_cons_succ, i64_w, i32_w]
               rfl
              refine pure_ (i := 13) (N := some 54) (v := ?_) (a' := ?_) #[true, true, false, false, true, true, false, false, true, true, false, false, true, true, false, false, false, false, false, false, false, false] rfl rfl (any_of HT_.out (by kernel_rfl)) (fun _ _ _ h => h) (Or.inl ⟨by rfl, ?_⟩) ?_ ?_
              rotate_left
              ·intro w'
               go_simp
               with_reducible rfl
              rotate_left
              ·simp only [Act.put, List.setIfInBounds_toArray, List.set_cons_zero, List.set_cons_succ, i64_w, i32_w]
               rfl
              refine pure_ (i := 14) (N := some 55) (v := ?_) (a' := ?_) #[true, true, false, false, true, true, false, false, true, true, false, false, true, true, true, false, false, false, false, false, false, false] rfl rfl (any_of HT_.out (by kernel_rfl)) (fun _ _ _ h => h) (Or.inl ⟨by rfl, ?_⟩) ?_ ?_
              rotate_left
              ·intro w'
               go_simp
               with_reducible rfl
              rotate_left
              ·simp only [Act.put, List.setIfInBounds_toArray, List.set_cons_zero, List.set_cons_succ, i64_w, i32_w]
               rfl
              refine pure_ (i := 15) (N := some 56) (v := ?_) (a' := ?_) #[true, true, false, false, true, true, false, false, true, true, false, false, true, true, true, true, false, false, false, false, false, false] rfl rfl (any_of HT_.out (by kernel_rfl)) (fun _ _ _ h => h) (Or.inl ⟨by rfl, ?_⟩) ?_ ?_
              rotate_left
              ·intro w'
               go_simp
               with_reducible rfl
              rotate_left
              ·simp only [Act.put, List.setIfInBounds_toArray, List.set_cons_zero, List.set_cons_succ, i64_w, i32_w]
               rfl
              refine pure_ (i := 17) (N := some 58) (v := ?_) (a' := ?_) #[true, true, false, false, true, true, false, false, true, true, false, false, true, true, true, true, false, true, false, false, false, false] rfl rfl (any_of HT_.out (by kernel_rfl)) (fun _ _ _ h => h) (Or.inl ⟨by rfl, ?_⟩) ?_ ?_
              rotate_left
              ·intro w'
               go_simp
               with_reducible rfl
              rotate_left
              ·simp only [Act.put, List.setIfInBounds_toArray, List.set_cons_zero, List.set_cons_succ, i64_w, i32_w]
               rfl
              refine pure_ (i := 18) (N := some 59) (v := ?_) (a' := ?_) #[true, true, false, false, true, true, false, false, true, true, false, false, true, true, true, true, false, true, true, false, false, false] rfl rfl (any_of HT_.out (by kernel_rfl)) (fun _ _ _ h => h) (Or.inl ⟨by rfl, ?_⟩) ?_ ?_
              rotate_left
              ·intro w'
               go_simp
               with_reducible rfl
              rotate_left
              ·simp only [Act.put, List.setIfInBounds_toArray, List.set_cons_zero, List.set_cons_succ, i64_w, i32_w]
               rfl
              refine take_ (i := 2) (N := some 43) (v := ?_) (a' := ?_) #[true, true, true, false, true, true, false, false, true, true, false, false, true, true, true, true, false, true, true, false, false, false] rfl rfl (take_ofW HT_.out HW_.out (by kernel_rfl)) (fun _ _ _ h => h) (Or.inl ⟨by rfl, ?_⟩) hHeld ?_ ?_
              rotate_left
              ·rintro w' ⟨s0, s1, s2⟩
               go_simp
               with_reducible rfl
              rotate_left
              ·simp only [Act.put, List.setIfInBounds_toArray, List.set_cons_zero, List.set_cons_succ, i64_w, i32_w]
               rfl
              refine pure_ (i := 3) (N := some 44) (v := ?_) (a' := ?_) #[true, true, true, true, true, true, false, false, true, true, false, false, true, true, true, true, false, true, true, false, false, false] rfl rfl (any_of HT_.out (by kernel_rfl)) (fun _ _ _ h => h) (Or.inl ⟨by rfl, ?_⟩) ?_ ?_
              rotate_left
              ·intro w'
               go_simp
               with_reducible rfl
              rotate_left
              ·simp only [Act.put, List.setIfInBounds_toArray, List.set_cons_zero, List.set_cons_succ, i64_w, i32_w]
               rfl
              refine take_ (i := 6) (N := some 47) (v := ?_) (a' := ?_) #[true, true, true, true, true, true, true, false, true, true, false, false, true, true, true, true, false, true, true, false, false, false] rfl rfl (take_ofW HT_.out HW_.out (by kernel_rfl)) (fun _ _ _ h => h) (Or.inl ⟨by rfl, ?_⟩) hHeld ?_ ?_
              rotate_left
              ·rintro w' ⟨s0, s1, s2⟩
               go_simp
               with_reducible rfl
              rotate_left
              ·simp only [Act.put, List.setIfInBounds_toArray, List.set_cons_zero, List.set_cons_succ, i64_w, i32_w]
               rfl
              refine pure_ (i := 7) (N := some 48) (v := ?_) (a' := ?_) #[true, true, true, true, true, true, true, true, true, true, false, false, true, true, true, true, false, true, true, false, false, false] rfl rfl (any_of HT_.out (by kernel_rfl)) (fun _ _ _ h => h) (Or.inl ⟨by rfl, ?_⟩) ?_ ?_
              rotate_left
              ·intro w'
               go_simp
               with_reducible rfl
              rotate_left
              ·simp only [Act.put, List.setIfInBounds_toArray, List.set_cons_zero, List.set_cons_succ, i64_w, i32_w]
               rfl
              refine take_ (i := 16) (N := some 57) (v := ?_) (a' := ?_) #[true, true, true, true, true, true, true, true, true, true, false, false, true, true, true, true, true, true, true, false, false, false] rfl rfl (take_ofW HT_.out HW_.out (by kernel_rfl)) (fun _ _ _ h => h) (Or.inl ⟨by rfl, ?_⟩) hHeld ?_ ?_
              rotate_left
              ·rintro w' ⟨s0, s1, s2⟩
               go_simp
               with_reducible rfl
              rotate_left
              ·simp only [Act.put, List.setIfInBounds_toArray, List.set_cons_zero, List.set_cons_succ, i64_w, i32_w]
               rfl
              refine join_ (σ := Nat) 1 #[true, true, true, true, true, true, true, true, true, true, true, true, true, true, true, true, true, true, true, true, true, false] (fun s_ => [(51, .int .u64 t443), (5, .pointer (some ⟨s_, 0, none⟩)), (52, .int .i64 (wrap64 (t443))), (60, .agg #[.int .i64 (wrap64 (rd l0 2)), .int .i64 (wrap64 (rd l0 3)), .int .i64 (wrap64 (t443)), .string (strOfNums y444), .int .i64 (l0.length : Int)])]) (fun s_ w' => (w'.cell? ⟨ad437.block, ad437.off + 2, none⟩ = some (.int .u8 (rd l0 2)) ∧ w'.cell? ⟨ad437.block, ad437.off + 3, none⟩ = some (.int .u8 (rd l0 3)) ∧ Sem.run Try.prog (convert 26 9 (.slice A32 y444.length c32)) w' = .ok (.string (strOfNums y444)) w') ∧ (w'.heap[gb428]? = some (.cells #[.int .i64 0, .int .i64 0, .int .i64 0, .string (⟨#[]⟩ : ByteArray), .int .i64 0] 36 (0, 0))) ∧ (w'.heap[s_]? = some (.cells #[.int .i64 0, .int .i64 0, .int .i64 0, .string (⟨#[]⟩ : ByteArray), .int .i64 0] 36 (0, 0))) ∧ (w.heap.size ≤ s_) ∧ (w.heap.size ≤ s_) ∧ (gb428 ≠ s_) ∧ (s_ ≠ gb428) ∧ (Below w.heap.size w w')) ?_ ?_
              rotate_left
              ·intro hCont
               refine two_ (i := 10) (j := 20) (Ni := some 51) (Nj := some 5) #[true, true, true, true, true, true, true, true, true, true, true, false, true, true, true, true, true, true, true, false, false, false] #[true, true, true, true, true, true, true, true, true, true, false, false, true, true, true, true, true, true, true, false, true, false] rfl rfl rfl rfl (two_of HT_.out (by kernel_rfl)) (by decide) (by decide) (fun K hK => ?_) (fun K hK => ?_)
               ·skip
                refine goes_ Try.func36 (by kernel_rfl) rfl #[.slice A31 y439.length c31] (by rfl) rfl rfl (by (try simp only [List.map_toArray, List.map_cons, List.map_nil]); first | done | rfl | (simp only [List.length_drop, List.length_take]; rfl)) ?_
                with_reducible refine (rf_value.calls kj1 _ _ y439 t443 _ ?side1 ?side2 A21.out).mono ?_
                (case side1 => repeat (first | exact (Kd.C_below HR442.out HB.out) | (with_reducible refine Kd.C_alloc ?_ _) | (with_reducible refine Kd.C_drewN ?_ _) | (with_reducible refine Kd.C_drew ?_)))
                (case side2 => exact HC442.out)
                rintro e w' ⟨rfl, ⟨nd, rfl⟩⟩
                refine ⟨_, rfl, ?_⟩
                refine hK.out _ _ ⟨((HB.out.cell (World.block_lt_of_cell? w _ hw437_0)).trans hw437_0), ((HB.out.cell (World.block_lt_of_cell? w _ hw438_0)).trans hw438_0), (Kd.C_string (P := Try.prog) (A := A32) (c := c32) Try.underlying26 Try.underlying5 Try.underlying9 (Kd.C_below HR447.out (by repeat (first | (with_reducible first | exact HB.out | apply bal | apply pbN | apply bd1 | refine bst ?_ GE428.out) | exact HB.out))))⟩ (fun hHeld => ?_)
                clear hK K
                refine norm_ (a' := ?_) ?_ ?_
                rotate_left
                ·show Act.put _ (some 51) _ = _
                 simp only [Act.put, List.setIfInBounds_toArray, List.set_cons_zero, List.set_cons_succ, i64_w, i32_w]
                 rfl
                refine pure_ (i := 11) (N := some 52) (v := ?_) (a' := ?_) #[true, true, true, true, true, true, true, true, true, true, true, true, true, true, true, true, true, true, true, false, false, false] rfl rfl (any_of HT_.out (by kernel_rfl)) (fun _ _ _ h => h) (Or.inl ⟨by rfl, ?_⟩) ?_ ?_
                rotate_left
                ·intro w'
                 go_simp
                 with_reducible rfl
                rotate_left
                ·simp only [Act.put, List.setIfInBounds_toArray, List.set_cons_zero, List.set_cons_succ, i64_w, i32_w]
                 rfl
                refine pure_ (i := 19) (N := some 60) (v := ?_) (a' := ?_) #[true, true, true, true, true, true, true, true, true, true, true, true, true, true, true, true, true, true, true, true, false, false] rfl rfl (any_of HT_.out (by kernel_rfl)) (fun _ _ _ h => h) (Or.inl ⟨by rfl, ?_⟩) ?_ ?_
                rotate_left
                ·intro w'
                 go_simp
                 with_reducible rfl
                rotate_left
                ·simp only [Act.put, List.setIfInBounds_toArray, List.set_cons_zero, List.set_cons_succ, i64_w, i32_w]
                 rfl
                refine one_ (i := 20) (N := some 5) #[true, true, true, true, true, true, true, true, true, true, true, true, true, true, true, true, true, true, true, true, true, false] rfl rfl (one_of HT_.out (by kernel_rfl)) (by decide) (fun K hK => ?_)
                refine box_step ?hg (N := 5) ?hd (cs := #[.int .i64 0, .int .i64 0, .int .i64 0, .string (⟨#[]⟩ : ByteArray), .int .i64 0]) (t := 36) ?hr ?_; (case hd => rfl); (case hg => rfl); (case hr => first | (go_simp; done) | (go_simp; rfl))
                intro gb448 hg w33 hbox hb
                have n0_ := Azz.mk (blk_below (g := gb428) (o := .cells #[.int .i64 0, .int .i64 0, .int .i64 0, .string (⟨#[]⟩ : ByteArray), .int .i64 0] 36 (0, 0)) (by (with_reducible repeat (first | refine kdN ?_ _ | refine kd1 ?_ | refine kal ?_ _)); exact BK428.out) hb)
                have n1_ := Azz.mk (below_step (by repeat (first | (with_reducible first | exact HB.out | apply bal | apply pbN | apply bd1 | refine bst ?_ GE428.out) | exact HB.out)) hb)
                have n2_ := Azz.mk (hbox)
                have n3_ := Azz.mk ((by rw [hg]; exact (below_size (by repeat (first | (with_reducible first | exact HB.out | apply bal | apply pbN | apply bd1 | refine bst ?_ GE428.out) | exact HB.out))) : w.heap.size ≤ gb448))
                have n4_ := Azz.mk ((by rw [hg]; exact (below_size (by repeat (first | (with_reducible first | exact HB.out | apply bal | apply pbN | apply bd1 | refine bst ?_ GE428.out) | exact HB.out))) : w.heap.size ≤ gb448))
                have n5_ := Azz.mk ((by rw [hg]; exact Nat.ne_of_lt (blk_lt (g := gb428) (o := .cells #[.int .i64 0, .int .i64 0, .int .i64 0, .string (⟨#[]⟩ : ByteArray), .int .i64 0] 36 (0, 0)) (by (with_reducible repeat (first | refine kdN ?_ _ | refine kd1 ?_ | refine kal ?_ _)); exact BK428.out)) : gb428 ≠ gb448))
                have n6_ := Azz.mk ((by rw [hg]; exact Nat.ne_of_gt (blk_lt (g := gb428) (o := .cells #[.int .i64 0, .int .i64 0, .int .i64 0, .string (⟨#[]⟩ : ByteArray), .int .i64 0] 36 (0, 0)) (by (with_reducible repeat (first | refine kdN ?_ _ | refine kd1 ?_ | refine kal ?_ _)); exact BK428.out)) : gb448 ≠ gb428))
                clear BK428
                clear HB
                have BK428 := n0_
                have HB := n1_
                have BK448 := n2_
                have GW448 := n3_
                have GE448 := n4_
                have NB428_448 := n5_
                have NB448_428 := n6_
                clear n0_ n1_ n2_ n3_ n4_ n5_ n6_
                clear hb hbox hg
                refine hK.out _ _ ⟨((HB.out.cell (World.block_lt_of_cell? w _ hw437_0)).trans hw437_0), ((HB.out.cell (World.block_lt_of_cell? w _ hw438_0)).trans hw438_0), (Kd.C_string (P := Try.prog) (A := A32) (c := c32) Try.underlying26 Try.underlying5 Try.underlying9 (Kd.C_below HR447.out (by repeat (first | (with_reducible first | exact HB.out | apply bal | apply pbN | apply bd1 | refine bst ?_ GE428.out) | exact HB.out))))⟩ (fun hHeld => ?_)
                clear hK K
                refine norm_ (a' := ?_) ?_ ?_
                rotate_left
                ·show Act.put _ (some 5) _ = _
                 simp only [Act.put, List.setIfInBounds_toArray, List.set_cons_zero, List.set_cons_succ, i64_w, i32_w]
                 rfl
                exact norm_ (by first | (simp only [putAll, Act.put, List.setIfInBounds_toArray, List.set_cons_zero, List.set_cons_succ]; done) | (simp only [putAll, Act.put, List.setIfInBounds_toArray, List.set_cons_zero, List.set_cons_succ, IntKind.wrap_u32, IntKind.wrap_u8]; done)) (hCont (gb448) _ ⟨hHeld, (by (with_reducible repeat (first | refine kdN ?_ _ | refine kd1 ?_ | refine kal ?_ _)); exact BK428.out), (by (with_reducible repeat (first | refine kdN ?_ _ | refine kd1 ?_ | refine kal ?_ _)); exact BK448.out), GW448.out, GE448.out, NB428_448.out, NB448_428.out, (by repeat (first | (with_reducible first | exact HB.out | apply bal | apply pbN | apply bd1 | refine bst ?_ GE428.out | refine bst ?_ GE448.out) | exact HB.out))⟩)
               ·skip
                refine box_step ?hg (N := 5) ?hd (cs := #[.int .i64 0, .int .i64 0, .int .i64 0, .string (⟨#[]⟩ : ByteArray), .int .i64 0]) (t := 36) ?hr ?_; (case hd => rfl); (case hg => rfl); (case hr => first | (go_simp; done) | (go_simp; rfl))
                intro gb448 hg w33 hbox hb
                have n0_ := Azz.mk (blk_below (g := gb428) (o := .cells #[.int .i64 0, .int .i64 0, .int .i64 0, .string (⟨#[]⟩ : ByteArray), .int .i64 0] 36 (0, 0)) (by (with_reducible repeat (first | refine kdN ?_ _ | refine kd1 ?_ | refine kal ?_ _)); exact BK428.out) hb)
                have n1_ := Azz.mk (below_step (by repeat (first | (with_reducible first | exact HB.out | apply bal | apply pbN | apply bd1 | refine bst ?_ GE428.out) | exact HB.out)) hb)
                have n2_ := Azz.mk (hbox)
                have n3_ := Azz.mk ((by rw [hg]; exact (below_size (by repeat (first | (with_reducible first | exact HB.out | apply bal | apply pbN | apply bd1 | refine bst ?_ GE428.out) | exact HB.out))) : w.heap.size ≤ gb448))
                have n4_ := Azz.mk ((by rw [hg]; exact (below_size (by repeat (first | (with_reducible first | exact HB.out | apply bal | apply pbN | apply bd1 | refine bst ?_ GE428.out) | exact HB.out))) : w.heap.size ≤ gb448))
                have n5_ := Azz.mk ((by rw [hg]; exact Nat.ne_of_lt (blk_lt (g := gb428) (o := .cells #[.int .i64 0, .int .i64 0, .int .i64 0, .string (⟨#[]⟩ : ByteArray), .int .i64 0] 36 (0, 0)) (by (with_reducible repeat (first | refine kdN ?_ _ | refine kd1 ?_ | refine kal ?_ _)); exact BK428.out)) : gb428 ≠ gb448))
                have n6_ := Azz.mk ((by rw [hg]; exact Nat.ne_of_gt (blk_lt (g := gb428) (o := .cells #[.int .i64 0, .int .i64 0, .int .i64 0, .string (⟨#[]⟩ : ByteArray), .int .i64 0] 36 (0, 0)) (by (with_reducible repeat (first | refine kdN ?_ _ | refine kd1 ?_ | refine kal ?_ _)); exact BK428.out)) : gb448 ≠ gb428))
                clear BK428
                clear HB
                have BK428 := n0_
                have HB := n1_
                have BK448 := n2_
                have GW448 := n3_
                have GE448 := n4_
                have NB428_448 := n5_
                have NB448_428 := n6_
                clear n0_ n1_ n2_ n3_ n4_ n5_ n6_
                clear hb hbox hg
                refine hK.out _ _ ⟨((HB.out.cell (World.block_lt_of_cell? w _ hw437_0)).trans hw437_0), ((HB.out.cell (World.block_lt_of_cell? w _ hw438_0)).trans hw438_0), (Kd.C_string (P := Try.prog) (A := A32) (c := c32) Try.underlying26 Try.underlying5 Try.underlying9 (Kd.C_below HR447.out (by repeat (first | (with_reducible first | exact HB.out | apply bal | apply pbN | apply bd1 | refine bst ?_ GE428.out) | exact HB.out))))⟩ (fun hHeld => ?_)
                clear hK K
                refine norm_ (a' := ?_) ?_ ?_
                rotate_left
                ·show Act.put _ (some 5) _ = _
                 simp only [Act.put, List.setIfInBounds_toArray, List.set_cons_zero, List.set_cons_succ, i64_w, i32_w]
                 rfl
                refine one_ (i := 10) (N := some 51) #[true, true, true, true, true, true, true, true, true, true, true, false, true, true, true, true, true, true, true, false, true, false] rfl rfl (one_of HT_.out (by kernel_rfl)) (by decide) (fun K hK => ?_)
                refine goes_ Try.func36 (by kernel_rfl) rfl #[.slice A31 y439.length c31] (by rfl) rfl rfl (by (try simp only [List.map_toArray, List.map_cons, List.map_nil]); first | done | rfl | (simp only [List.length_drop, List.length_take]; rfl)) ?_
                with_reducible refine (rf_value.calls kj1 _ _ y439 t443 _ ?side1 ?side2 A21.out).mono ?_
                (case side1 => repeat (first | exact (Kd.C_below HR442.out HB.out) | (with_reducible refine Kd.C_alloc ?_ _) | (with_reducible refine Kd.C_drewN ?_ _) | (with_reducible refine Kd.C_drew ?_)))
                (case side2 => exact HC442.out)
                rintro e w' ⟨rfl, ⟨nd, rfl⟩⟩
                refine ⟨_, rfl, ?_⟩
                refine hK.out _ _ ⟨((HB.out.cell (World.block_lt_of_cell? w _ hw437_0)).trans hw437_0), ((HB.out.cell (World.block_lt_of_cell? w _ hw438_0)).trans hw438_0), (Kd.C_string (P := Try.prog) (A := A32) (c := c32) Try.underlying26 Try.underlying5 Try.underlying9 (Kd.C_below HR447.out (by repeat (first | (with_reducible first | exact HB.out | apply bal | apply pbN | apply bd1 | refine bst ?_ GE428.out) | exact HB.out))))⟩ (fun hHeld => ?_)
                clear hK K
                refine norm_ (a' := ?_) ?_ ?_
                rotate_left
                ·show Act.put _ (some 51) _ = _
                 simp only [Act.put, List.setIfInBounds_toArray, List.set_cons_zero, List.set_cons_succ, i64_w, i32_w]
                 rfl
                refine pure_ (i := 11) (N := some 52) (v := ?_) (a' := ?_) #[true, true, true, true, true, true, true, true, true, true, true, true, true, true, true, true, true, true, true, false, true, false] rfl rfl (any_of HT_.out (by kernel_rfl)) (fun _ _ _ h => h) (Or.inl ⟨by rfl, ?_⟩) ?_ ?_
                rotate_left
                ·intro w'
                 go_simp
                 with_reducible rfl
                rotate_left
                ·simp only [Act.put, List.setIfInBounds_toArray, List.set_cons_zero, List.set_cons_succ, i64_w, i32_w]
                 rfl
                refine pure_ (i := 19) (N := some 60) (v := ?_) (a' := ?_) #[true, true, true, true, true, true, true, true, true, true, true, true, true, true, true, true, true, true, true, true, true, false] rfl rfl (any_of HT_.out (by kernel_rfl)) (fun _ _ _ h => h) (Or.inl ⟨by rfl, ?_⟩) ?_ ?_
                rotate_left
                ·intro w'
                 go_simp
                 with_reducible rfl
                rotate_left
                ·simp only [Act.put, List.setIfInBounds_toArray, List.set_cons_zero, List.set_cons_succ, i64_w, i32_w]
                 rfl
                exact norm_ (by first | (simp only [putAll, Act.put, List.setIfInBounds_toArray, List.set_cons_zero, List.set_cons_succ]; done) | (simp only [putAll, Act.put, List.setIfInBounds_toArray, List.set_cons_zero, List.set_cons_succ, IntKind.wrap_u32, IntKind.wrap_u8]; done)) (hCont (gb448) _ ⟨hHeld, (by (with_reducible repeat (first | refine kdN ?_ _ | refine kd1 ?_ | refine kal ?_ _)); exact BK428.out), (by (with_reducible repeat (first | refine kdN ?_ _ | refine kd1 ?_ | refine kal ?_ _)); exact BK448.out), GW448.out, GE448.out, NB428_448.out, NB448_428.out, (by repeat (first | (with_reducible first | exact HB.out | apply bal | apply pbN | apply bd1 | refine bst ?_ GE428.out | refine bst ?_ GE448.out) | exact HB.out))⟩)
              rintro gb448 w34 ⟨hS_, h0_, h1_, h2_, h3_, h4_, h5_, h6_⟩
              have n0_ : Azz (w34.heap[gb428]? = some (.cells #[.int .i64 0, .int .i64 0, .int .i64 0, .string (⟨#[]⟩ : ByteArray), .int .i64 0] 36 (0, 0))) := ⟨h0_⟩
              have n1_ : Azz (w34.heap[gb448]? = some (.cells #[.int .i64 0, .int .i64 0, .int .i64 0, .string (⟨#[]⟩ : ByteArray), .int .i64 0] 36 (0, 0))) := ⟨h1_⟩
              have n2_ : Azz (w.heap.size ≤ gb448) := ⟨h2_⟩
              have n3_ : Azz (w.heap.size ≤ gb448) := ⟨h3_⟩
              have n4_ : Azz (gb428 ≠ gb448) := ⟨h4_⟩
              have n5_ : Azz (gb448 ≠ gb428) := ⟨h5_⟩
              have n6_ : Azz (Below w.heap.size w w34) := ⟨h6_⟩
              clear BK428
              clear HB
              clear h0_ h1_ h2_ h3_ h4_ h5_ h6_
              have BK428 := n0_
              have BK448 := n1_
              have GW448 := n2_
              have GE448 := n3_
              have NB428_448 := n4_
              have NB448_428 := n5_
              have HB := n6_
              clear n0_ n1_ n2_ n3_ n4_ n5_ n6_
              have hHeld : w34.cell? ⟨ad437.block, ad437.off + 2, none⟩ = some (.int .u8 (rd l0 2)) ∧ w34.cell? ⟨ad437.block, ad437.off + 3, none⟩ = some (.int .u8 (rd l0 3)) ∧ Sem.run Try.prog (convert 26 9 (.slice A32 y444.length c32)) w34 = .ok (.string (strOfNums y444)) w34 := hS_
              refine norm_ (a' := ?_) ?_ ?_
              rotate_left
              ·simp only [putAll, Act.put, List.setIfInBounds_toArray, List.set_cons_zero, List.set_cons_succ]
               rfl
              refine one_ (i := 21) (N := none) #[true, true, true, true, true, true, true, true, true, true, true, true, true, true, true, true, true, true, true, true, true, true] rfl rfl (one_of HT_.out (by kernel_rfl)) (by decide) (fun K hK => ?_)
              have hs35 : World.cell? _ ⟨gb448, 0, none⟩ = some (.int .i64 0) := (kcl BK448.out 0).trans rfl
              have hfs35 := kfz BK448.out 0
              have hns35_0 := NB428_448.out
              have hms35_0 := NB448_428.out
              have hs36 : World.cell? _ ⟨gb448, 1, none⟩ = some (.int .i64 0) := (kcl BK448.out 1).trans rfl
              have hfs36 := kfz BK448.out 1
              have hns36_0 := NB428_448.out
              have hms36_0 := NB448_428.out
              have hs37 : World.cell? _ ⟨gb448, 2, none⟩ = some (.int .i64 0) := (kcl BK448.out 2).trans rfl
              have hfs37 := kfz BK448.out 2
              have hns37_0 := NB428_448.out
              have hms37_0 := NB448_428.out
              have hs38 : World.cell? _ ⟨gb448, 3, none⟩ = some (.string (⟨#[]⟩ : ByteArray)) := (kcl BK448.out 3).trans rfl
              have hfs38 := kfz BK448.out 3
              have hns38_0 := NB428_448.out
              have hms38_0 := NB448_428.out
              have hs39 : World.cell? _ ⟨gb448, 4, none⟩ = some (.int .i64 0) := (kcl BK448.out 4).trans rfl
              have hfs39 := kfz BK448.out 4
              have hns39_0 := NB428_448.out
              have hms39_0 := NB448_428.out
              refine skip_ (w1 := ?_) (by rfl) rfl ?_ ?_
              rotate_left
              ·go_simp
               rfl
              refine hK.out _ _ ⟨((cell_far (p := ⟨gb448, _, none⟩) (cell_ne hw437_0 GW448.out) _).trans (((cell_far (p := ⟨gb448, _, none⟩) (cell_ne hw437_0 GW448.out) _).trans (((cell_far (p := ⟨gb448, _, none⟩) (cell_ne hw437_0 GW448.out) _).trans (((cell_far (p := ⟨gb448, _, none⟩) (cell_ne hw437_0 GW448.out) _).trans (((cell_far (p := ⟨gb448, _, none⟩) (cell_ne hw437_0 GW448.out) _).trans (hHeld.1)))))))))), ((cell_far (p := ⟨gb448, _, none⟩) (cell_ne hw438_0 GW448.out) _).trans (((cell_far (p := ⟨gb448, _, none⟩) (cell_ne hw438_0 GW448.out) _).trans (((cell_far (p := ⟨gb448, _, none⟩) (cell_ne hw438_0 GW448.out) _).trans (((cell_far (p := ⟨gb448, _, none⟩) (cell_ne hw438_0 GW448.out) _).trans (((cell_far (p := ⟨gb448, _, none⟩) (cell_ne hw438_0 GW448.out) _).trans (hHeld.2.1)))))))))), (Kd.C_string (P := Try.prog) (A := A32) (c := c32) Try.underlying26 Try.underlying5 Try.underlying9 (Kd.C_below HR447.out (by repeat (first | (with_reducible first | exact (bst (bst (bst (bst (bst HB.out GE448.out) GE448.out) GE448.out) GE448.out) GE448.out) | apply bal | apply pbN | apply bd1 | refine bst ?_ GE428.out) | exact (bst (bst (bst (bst (bst HB.out GE448.out) GE448.out) GE448.out) GE448.out) GE448.out)))))⟩ (fun hHeld => ?_)
              clear hK K
              refine done_ (done_of HT_.out (by kernel_rfl)) ?_
              have hnb40 := NB448_428.out
              have hnc40 := NB428_448.out
              have hcz41_0 : World.cell? _ ⟨gb448, 0, none⟩ = some (.int .i64 0) := (kcl BK448.out 0).trans rfl
              have hcz41_1 : World.cell? _ ⟨gb448, 1, none⟩ = some (.int .i64 0) := (kcl BK448.out 1).trans rfl
              have hcz41_2 : World.cell? _ ⟨gb448, 2, none⟩ = some (.int .i64 0) := (kcl BK448.out 2).trans rfl
              have hcz41_3 : World.cell? _ ⟨gb448, 3, none⟩ = some (.string (⟨#[]⟩ : ByteArray)) := (kcl BK448.out 3).trans rfl
              have hcz41_4 : World.cell? _ ⟨gb448, 4, none⟩ = some (.int .i64 0) := (kcl BK448.out 4).trans rfl
              have hfz41_0 := kfz BK448.out 0
              have hfz41_1 := kfz BK448.out 1
              have hfz41_2 := kfz BK448.out 2
              have hfz41_3 := kfz BK448.out 3
              have hfz41_4 := kfz BK448.out 4
              try go_wp2_with (first | ((with_reducible refine gate_callee (f := 18) rfl ?_); refine goesL_ (some 62) rfl rfl Try.func18 (by kernel_rfl) rfl #[.agg #[.int .i64 (wrap64 (rd l0 2)), .int .i64 (wrap64 (rd l0 3)), .int .i64 (wrap64 (t443)), .string (strOfNums y444), .int .i64 (l0.length : Int)]] rfl (by (try simp only [List.map_toArray, List.map_cons, List.map_nil]); first | done | rfl | (simp only [List.length_drop, List.length_take]; rfl)) ?_; (with_reducible refine (rf_RightData.calls (wrap64 (rd l0 2)) (wrap64 (rd l0 3)) (wrap64 (t443)) (strOfNums y444) (l0.length : Int) true _ A24.out).mono ?_); rintro e w42 ⟨rfl, hb⟩; refine ⟨_, rfl, ?_⟩; have n0_ := Azz.mk (blk_below (g := gb428) (o := .cells #[.int .i64 0, .int .i64 0, .int .i64 0, .string (⟨#[]⟩ : ByteArray), .int .i64 0] 36 (0, 0)) (by (with_reducible repeat (first | refine kdN ?_ _ | refine kd1 ?_ | refine kal ?_ _)); refine blk_far ?_ NB428_448.out _; (with_reducible repeat (first | refine kdN ?_ _ | refine kd1 ?_ | refine kal ?_ _)); refine blk_far ?_ NB428_448.out _; (with_reducible repeat (first | refine kdN ?_ _ | refine kd1 ?_ | refine kal ?_ _)); refine blk_far ?_ NB428_448.out _; (with_reducible repeat (first | refine kdN ?_ _ | refine kd1 ?_ | refine kal ?_ _)); refine blk_far ?_ NB428_448.out _; (with_reducible repeat (first | refine kdN ?_ _ | refine kd1 ?_ | refine kal ?_ _)); refine blk_far ?_ NB428_448.out _; (with_reducible repeat (first | refine kdN ?_ _ | refine kd1 ?_ | refine kal ?_ _)); exact BK428.out) hb); have n1_ := Azz.mk (blk_below (g := gb448) (o := .cells #[.int .i64 (wrap64 (rd l0 2)), .int .i64 (wrap64 (rd l0 3)), .int .i64 (wrap64 (t443)), .string (strOfNums y444), .int .i64 (l0.length : Int)] 36 (0, 0)) (by (with_reducible repeat (first | refine kdN ?_ _ | refine kd1 ?_ | refine kal ?_ _)); refine blk_put (cs := #[.int .i64 (wrap64 (rd l0 2)), .int .i64 (wrap64 (rd l0 3)), .int .i64 (wrap64 (t443)), .string (strOfNums y444), .int .i64 0]) ?_ 4 _ rfl; (with_reducible repeat (first | refine kdN ?_ _ | refine kd1 ?_ | refine kal ?_ _)); refine blk_put (cs := #[.int .i64 (wrap64 (rd l0 2)), .int .i64 (wrap64 (rd l0 3)), .int .i64 (wrap64 (t443)), .string (⟨#[]⟩ : ByteArray), .int .i64 0]) ?_ 3 _ rfl; (with_reducible repeat (first | refine kdN ?_ _ | refine kd1 ?_ | refine kal ?_ _)); refine blk_put (cs := #[.int .i64 (wrap64 (rd l0 2)), .int .i64 (wrap64 (rd l0 3)), .int .i64 0, .string (⟨#[]⟩ : ByteArray), .int .i64 0]) ?_ 2 _ rfl; (with_reducible repeat (first | refine kdN ?_ _ | refine kd1 ?_ | refine kal ?_ _)); refine blk_put (cs := #[.int .i64 (wrap64 (rd l0 2)), .int .i64 0, .int .i64 0, .string (⟨#[]⟩ : ByteArray), .int .i64 0]) ?_ 1 _ rfl; (with_reducible repeat (first | refine kdN ?_ _ | refine kd1 ?_ | refine kal ?_ _)); refine blk_put (cs := #[.int .i64 0, .int .i64 0, .int .i64 0, .string (⟨#[]⟩ : ByteArray), .int .i64 0]) ?_ 0 _ rfl; (with_reducible repeat (first | refine kdN ?_ _ | refine kd1 ?_ | refine kal ?_ _)); exact BK448.out) hb); have n2_ := Azz.mk (below_step (by repeat (first | (with_reducible first | exact HB.out | apply bal | apply pbN | apply bd1 | refine bst ?_ GE428.out | refine bst ?_ GE448.out) | exact HB.out)) hb); clear BK428; clear BK448; clear HB; have BK428 := n0_; have BK448 := n1_; have HB := n2_; clear n0_ n1_ n2_; (try clear hb); (try clear hb2); (try clear hk); (try clear hi); have hcz43_0 : World.cell? _ ⟨gb448, 0, none⟩ = some (.int .i64 (wrap64 (rd l0 2))) := (kcl BK448.out 0).trans rfl; have hcz43_1 : World.cell? _ ⟨gb448, 1, none⟩ = some (.int .i64 (wrap64 (rd l0 3))) := (kcl BK448.out 1).trans rfl; have hcz43_2 : World.cell? _ ⟨gb448, 2, none⟩ = some (.int .i64 (wrap64 (t443))) := (kcl BK448.out 2).trans rfl; have hcz43_3 : World.cell? _ ⟨gb448, 3, none⟩ = some (.string (strOfNums y444)) := (kcl BK448.out 3).trans rfl; have hcz43_4 : World.cell? _ ⟨gb448, 4, none⟩ = some (.int .i64 (l0.length : Int)) := (kcl BK448.out 4).trans rfl; have hfz43_0 := kfz BK448.out 0; have hfz43_1 := kfz BK448.out 1; have hfz43_2 := kfz BK448.out 2; have hfz43_3 := kfz BK448.out 3; have hfz43_4 := kfz BK448.out 4) | (go_at_call 20; (with_reducible refine (rf_Data.calls kj1 (wrap64 (rd l0 2)) (wrap64 (rd l0 3)) (wrap64 (t443)) (strOfNums y444) (l0.length : Int) t450 _ A26.out).mono ?_); rintro e w44 ⟨v451, rfl, ho0, hb⟩; have n0_ := Azz.mk (Kd.R_lower ho0 (below_size (by repeat (first | (with_reducible first | exact HB.out | apply bal | apply pbN | apply bd1 | refine bst ?_ GE428.out | refine bst ?_ GE448.out) | exact HB.out)))); have n1_ := Azz.mk (blk_below (g := gb428) (o := .cells #[.int .i64 0, .int .i64 0, .int .i64 0, .string (⟨#[]⟩ : ByteArray), .int .i64 0] 36 (0, 0)) (by (with_reducible repeat (first | refine kdN ?_ _ | refine kd1 ?_ | refine kal ?_ _)); exact BK428.out) hb); have n2_ := Azz.mk (blk_below (g := gb448) (o := .cells #[.int .i64 (wrap64 (rd l0 2)), .int .i64 (wrap64 (rd l0 3)), .int .i64 (wrap64 (t443)), .string (strOfNums y444), .int .i64 (l0.length : Int)] 36 (0, 0)) (by (with_reducible repeat (first | refine kdN ?_ _ | refine kd1 ?_ | refine kal ?_ _)); exact BK448.out) hb); have n3_ := Azz.mk (below_step (by repeat (first | (with_reducible first | exact HB.out | apply bal | apply pbN | apply bd1 | refine bst ?_ GE428.out | refine bst ?_ GE448.out) | exact HB.out)) hb); clear BK428; clear BK448; clear HB; have HO452 := n0_; have BK428 := n1_; have BK448 := n2_; have HB := n3_; clear n0_ n1_ n2_ n3_; (try clear hb); (try clear hb2); (try clear hk); (try clear hi); (try clear ho0); obtain ⟨Ao45, co45, eo45⟩ := Kd.R_slice HO452.out; subst eo45) | (go_at_call 37; (with_reducible refine (rf_same.calls _ _ t450 _ _ l0 true _ ?side1 ?side2 ?side3 ?side4 A27.out).mono ?_); (case side1 => repeat (first | exact (Kd.R_reads' HO452.out).2.2 | (with_reducible refine Kd.C_alloc ?_ _) | (with_reducible refine Kd.C_drewN ?_ _) | (with_reducible refine Kd.C_drew ?_))); (case side2 => exact (Kd.R_reads' HO452.out).2.1); (case side3 => repeat (first | exact (Kd.C_below HR0.out HB.out) | (with_reducible refine Kd.C_alloc ?_ _) | (with_reducible refine Kd.C_drewN ?_ _) | (with_reducible refine Kd.C_drew ?_))); (case side4 => exact HC0.out); rintro e w' ⟨rfl, ⟨nd, rfl⟩⟩; (try (rw [drewN_self w44]; generalize hq_ : World.drewN w44 _ = w44; have n0_ : Azz (Kd.R (Kd.int .u8) 5 w44 w.heap.size (fun _ => True) (.slice Ao45 t450.length co45) t450) := ⟨by rw [← hq_]; exact (by (with_reducible repeat (first | apply Kd.R_alloc | apply Kd.R_drewN | apply Kd.R_drew)); exact HO452.out)⟩; have n1_ : Azz (w44.heap[gb428]? = some (.cells #[.int .i64 0, .int .i64 0, .int .i64 0, .string (⟨#[]⟩ : ByteArray), .int .i64 0] 36 (0, 0))) := ⟨by rw [← hq_]; exact (by (with_reducible repeat (first | refine kdN ?_ _ | refine kd1 ?_ | refine kal ?_ _)); exact BK428.out)⟩; have n2_ : Azz (w44.heap[gb448]? = some (.cells #[.int .i64 (wrap64 (rd l0 2)), .int .i64 (wrap64 (rd l0 3)), .int .i64 (wrap64 (t443)), .string (strOfNums y444), .int .i64 (l0.length : Int)] 36 (0, 0))) := ⟨by rw [← hq_]; exact (by (with_reducible repeat (first | refine kdN ?_ _ | refine kd1 ?_ | refine kal ?_ _)); exact BK448.out)⟩; have n3_ : Azz (Below w.heap.size w w44) := ⟨by rw [← hq_]; exact (by repeat (first | (with_reducible first | exact HB.out | apply bal | apply pbN | apply bd1 | refine bst ?_ GE428.out | refine bst ?_ GE448.out) | exact HB.out))⟩; clear HO452 BK428 BK448 HB hq_; have HO452 := n0_; have BK428 := n1_; have BK448 := n2_; have HB := n3_; clear n0_ n1_ n2_ n3_)); have hcz46_0 : World.cell? _ ⟨gb448, 0, none⟩ = some (.int .i64 (wrap64 (rd l0 2))) := (kcl BK448.out 0).trans rfl; have hcz46_1 : World.cell? _ ⟨gb448, 1, none⟩ = some (.int .i64 (wrap64 (rd l0 3))) := (kcl BK448.out 1).trans rfl; have hcz46_2 : World.cell? _ ⟨gb448, 2, none⟩ = some (.int .i64 (wrap64 (t443))) := (kcl BK448.out 2).trans rfl; have hcz46_3 : World.cell? _ ⟨gb448, 3, none⟩ = some (.string (strOfNums y444)) := (kcl BK448.out 3).trans rfl; have hcz46_4 : World.cell? _ ⟨gb448, 4, none⟩ = some (.int .i64 (l0.length : Int)) := (kcl BK448.out 4).trans rfl; have hfz46_0 := kfz BK448.out 0; have hfz46_1 := kfz BK448.out 1; have hfz46_2 := kfz BK448.out 2; have hfz46_3 := kfz BK448.out 3; have hfz46_4 := kfz BK448.out 4; have hcz47_0 : World.cell? _ ⟨gb428, 0, none⟩ = some (.int .i64 0) := (kcl BK428.out 0).trans rfl; have hcz47_1 : World.cell? _ ⟨gb428, 1, none⟩ = some (.int .i64 0) := (kcl BK428.out 1).trans rfl; have hcz47_2 : World.cell? _ ⟨gb428, 2, none⟩ = some (.int .i64 0) := (kcl BK428.out 2).trans rfl; have hcz47_3 : World.cell? _ ⟨gb428, 3, none⟩ = some (.string (⟨#[]⟩ : ByteArray)) := (kcl BK428.out 3).trans rfl; have hcz47_4 : World.cell? _ ⟨gb428, 4, none⟩ = some (.int .i64 0) := (kcl BK428.out 4).trans rfl; have hfz47_0 := kfz BK428.out 0; have hfz47_1 := kfz BK428.out 1; have hfz47_2 := kfz BK428.out 2; have hfz47_3 := kfz BK428.out 3; have hfz47_4 := kfz BK428.out 4))
              refine bodyPost_ret (results_ct rfl _ _ gb428 36 #[.int .i64 (wrap64 (rd l0 2)), .int .i64 (wrap64 (rd l0 3)), .int .i64 (wrap64 (t443)), .string (strOfNums y444), .int .i64 (l0.length : Int)] (0, 0) _ rfl (by (with_reducible repeat (first | refine kdN ?_ _ | refine kd1 ?_ | refine kal ?_ _)); refine blk_put (cs := #[.int .i64 (wrap64 (rd l0 2)), .int .i64 (wrap64 (rd l0 3)), .int .i64 (wrap64 (t443)), .string (strOfNums y444), .int .i64 0]) ?_ 4 _ rfl; (with_reducible repeat (first | refine kdN ?_ _ | refine kd1 ?_ | refine kal ?_ _)); refine blk_put (cs := #[.int .i64 (wrap64 (rd l0 2)), .int .i64 (wrap64 (rd l0 3)), .int .i64 (wrap64 (t443)), .string (⟨#[]⟩ : ByteArray), .int .i64 0]) ?_ 3 _ rfl; (with_reducible repeat (first | refine kdN ?_ _ | refine kd1 ?_ | refine kal ?_ _)); refine blk_put (cs := #[.int .i64 (wrap64 (rd l0 2)), .int .i64 (wrap64 (rd l0 3)), .int .i64 0, .string (⟨#[]⟩ : ByteArray), .int .i64 0]) ?_ 2 _ rfl; (with_reducible repeat (first | refine kdN ?_ _ | refine kd1 ?_ | refine kal ?_ _)); refine blk_put (cs := #[.int .i64 (wrap64 (rd l0 2)), .int .i64 0, .int .i64 0, .string (⟨#[]⟩ : ByteArray), .int .i64 0]) ?_ 1 _ rfl; (with_reducible repeat (first | refine kdN ?_ _ | refine kd1 ?_ | refine kal ?_ _)); refine blk_put (cs := #[.int .i64 0, .int .i64 0, .int .i64 0, .string (⟨#[]⟩ : ByteArray), .int .i64 0]) ?_ 0 _ rfl; (with_reducible repeat (first | refine kdN ?_ _ | refine kd1 ?_ | refine kal ?_ _)); exact BK428.out) Try.underlying36 rfl (by kernel_rfl)) rfl ?_
              exact ⟨by first | rfl | (simp [errW_none, errW_some] <;> rfl) | (simp [*, errW_none, errW_some] <;> rfl), by repeat (first | (with_reducible first | exact HB.out | apply bal | apply pbN | apply bd1 | refine bst ?_ GE428.out | refine bst ?_ GE448.out) | exact HB.out)⟩
             ·replace c28 := Bool.eq_false_iff.mpr c28
              subst c28
              have H1 : (some (0, 0, 0, (⟨#[]⟩ : ByteArray), 0, 2)) = some (r1, r2, r3, r4, r5, r6) := by rw [if_neg (show ¬ (false = true) by decide)] at H; exact H
              clear H
              have H := H1
              clear H1
              simp only [Option.some.injEq, Prod.mk.injEq] at H
              obtain ⟨rfl, rfl, rfl, rfl, rfl, rfl⟩ := H
              try go_wp2_with (first | ((with_reducible refine gate_callee (f := 35) rfl ?_); refine goesL_ (some 28) rfl rfl Try.func35 (by kernel_rfl) rfl #[.slice A0 l0.length c0] rfl (by (try simp only [List.map_toArray, List.map_cons, List.map_nil]); first | done | rfl | (simp only [List.length_drop, List.length_take]; rfl)) ?_; (with_reducible refine (rf_sum.calls kj1 _ _ l0 true _ ?side1 ?side2 A11.out).mono ?_); (case side1 => repeat (first | exact (Kd.C_below HR0.out HB.out) | (with_reducible refine Kd.C_alloc ?_ _) | (with_reducible refine Kd.C_drewN ?_ _) | (with_reducible refine Kd.C_drew ?_))); (case side2 => exact HC0.out); rintro e w' ⟨rfl, ⟨nd, rfl⟩⟩; refine ⟨_, rfl, ?_⟩; (try (rw [drewN_self wc]; generalize hq_ : World.drewN wc _ = wc; have n0_ : Azz (wc.heap[gb428]? = some (.cells #[.int .i64 0, .int .i64 0, .int .i64 0, .string (⟨#[]⟩ : ByteArray), .int .i64 0] 36 (0, 0))) := ⟨by rw [← hq_]; exact (by (with_reducible repeat (first | refine kdN ?_ _ | refine kd1 ?_ | refine kal ?_ _)); exact BK428.out)⟩; have n1_ : Azz (Below w.heap.size w wc) := ⟨by rw [← hq_]; exact (by repeat (first | (with_reducible first | exact HB.out | apply bal | apply pbN | apply bd1 | refine bst ?_ GE428.out) | exact HB.out))⟩; clear BK428 HB hq_; have BK428 := n0_; have HB := n1_; clear n0_ n1_)); have q48 : (10 : Int) ≤ ((l0.length : Int) : Int) := of_decide_eq_true (by first | (with_reducible assumption) | assumption); obtain ⟨i048, hi048, _, hsz48, _⟩ := info_parts info5; have hroom48 : l0.length ≤ c0 := HC0.out; have hC48 : Kd.C (Kd.int .u8) _ A0 l0.length l0 := HR0.out; have ql48 : (8 : Int) ≤ (10 : Int) := (by omega); have hcut48 := cut_mid (P := Try.prog) 26 5 .i64 .i64 Try.underlying26 hi048 1 hsz48 A0 l0.length c0 8 10 (by omega) ql48 q48 hroom48; have hr48 := Kd.C_mid (lo := (8 : Int).toNat) (hi := (10 : Int).toNat) (c := c0) hC48 (by omega) (by omega) hroom48; obtain ⟨A48, hA48⟩ : ∃ A1, A1 = (if c0 = (8 : Int).toNat then A0 else (A0 : Option Addr).map (·.add ((8 : Int).toNat * 1))) := ⟨_, rfl⟩; obtain ⟨c48, hc48⟩ : ∃ c1, c1 = c0 - (8 : Int).toNat := ⟨_, rfl⟩; have hy48 : y432.length = (10 : Int).toNat - (8 : Int).toNat := (by rw [Ny432.out, List.length_drop, List.length_take] <;> omega); rw [show ((l0).take (10 : Int).toNat).drop (8 : Int).toNat = y432 from Ny432.out.symm] at hr48; replace hr48 : Kd.C (Kd.int .u8) _ A48 y432.length y432 := (by rw [hA48]; exact hr48); rw [← hy48, ← hA48, ← hc48] at hcut48; have HR435 := Azz.mk hr48; have HC435 := Azz.mk (show y432.length ≤ c48 from by rw [hy48, hc48]; exact Nat.sub_le_sub_right (Nat.le_trans (by omega) hroom48) _); clear hr48 hC48 hroom48 hi048 hsz48 hc48; have KY48 := Azz.mk hy48; have KA48 := Azz.mk hA48; clear hy48 hA48; replace q48 := eq_true q48) | ((with_reducible refine gate_callee (f := 36) rfl ?_); refine goesL_ (some 33) rfl rfl Try.func36 (by kernel_rfl) rfl #[.slice A48 y432.length c48] rfl (by (try simp only [List.map_toArray, List.map_cons, List.map_nil]); first | done | rfl | (simp only [List.length_drop, List.length_take]; rfl)) ?_; (with_reducible refine (rf_value.calls kj1 _ _ y432 t436 _ ?side1 ?side2 A14.out).mono ?_); (case side1 => repeat (first | exact (Kd.C_below HR435.out HB.out) | (with_reducible refine Kd.C_alloc ?_ _) | (with_reducible refine Kd.C_drewN ?_ _) | (with_reducible refine Kd.C_drew ?_))); (case side2 => exact HC435.out); rintro e w' ⟨rfl, ⟨nd, rfl⟩⟩; refine ⟨_, rfl, ?_⟩; (try (rw [drewN_self wc]; generalize hq_ : World.drewN wc _ = wc; have n0_ : Azz (wc.heap[gb428]? = some (.cells #[.int .i64 0, .int .i64 0, .int .i64 0, .string (⟨#[]⟩ : ByteArray), .int .i64 0] 36 (0, 0))) := ⟨by rw [← hq_]; exact (by (with_reducible repeat (first | refine kdN ?_ _ | refine kd1 ?_ | refine kal ?_ _)); exact BK428.out)⟩; have n1_ : Azz (Below w.heap.size w wc) := ⟨by rw [← hq_]; exact (by repeat (first | (with_reducible first | exact HB.out | apply bal | apply pbN | apply bd1 | refine bst ?_ GE428.out) | exact HB.out))⟩; clear BK428 HB hq_; have BK428 := n0_; have HB := n1_; clear n0_ n1_))))
              have n0_ := Azz.mk (kd1 BK428.out)
              have n1_ := Azz.mk (bd1 HB.out)
              clear BK428
              clear HB
              have BK428 := n0_
              have HB := n1_
              clear n0_ n1_
              have p437 : 0 ≤ (2 : Int) := (by omega)
              have q437 : 2 < (l0.length : Int) := of_decide_eq_true (by first | (with_reducible assumption) | assumption)
              obtain ⟨ad437, e437, hx437_0⟩ := Kd.at_int HR0.out 2 p437 q437
              have hw437_0 := hx437_0
              (try rw [show ((2 : Int)).toNat = 2 from rfl] at hw437_0)
              (try rw [show 2 * 1 = 2 from rfl] at hw437_0)
              (try simp only [Nat.reduceMul, Nat.reduceEqDiff, Go.Addr.add, ↓reduceIte] at hw437_0)
              cases e437
              (try simp only [show (2 : Int).toNat = 2 from rfl, Nat.reduceMul, Nat.reduceEqDiff, Go.Addr.add, ↓reduceIte] at hx437_0)
              have qi437 : (2 < l0.length) = True := eq_true (by omega)
              (try rw [show ((2 : Int)).toNat = 2 from rfl] at hx437_0)
              replace hx437_0 := (HB.out.cell (World.block_lt_of_cell? w _ hx437_0)).trans hx437_0
              replace p437 := eq_true p437
              replace q437 := eq_true q437
              have p438 : 0 ≤ (3 : Int) := (by omega)
              have q438 : 3 < (l0.length : Int) := of_decide_eq_true (by first | (with_reducible assumption) | assumption)
              obtain ⟨ad438, e438, hx438_0⟩ := Kd.at_int HR0.out 3 p438 q438
              have hw438_0 := hx438_0
              (try rw [show ((3 : Int)).toNat = 3 from rfl] at hw438_0)
              (try rw [show 3 * 1 = 3 from rfl] at hw438_0)
              (try simp only [Nat.reduceMul, Nat.reduceEqDiff, Go.Addr.add, ↓reduceIte] at hw438_0)
              obtain rfl : ad437 = ad438 := (by injection e438)
              (try simp only [show (3 : Int).toNat = 3 from rfl, Nat.reduceMul, Nat.reduceEqDiff, Go.Addr.add, ↓reduceIte] at hx438_0)
              have qi438 : (3 < l0.length) = True := eq_true (by omega)
              (try rw [show ((3 : Int)).toNat = 3 from rfl] at hx438_0)
              replace hx438_0 := (HB.out.cell (World.block_lt_of_cell? w _ hx438_0)).trans hx438_0
              replace p438 := eq_true p438
              replace q438 := eq_true q438
              have q50 : (8 : Int) ≤ ((l0.length : Int) : Int) := of_decide_eq_true (by first | (with_reducible assumption) | assumption)
              obtain ⟨i050, hi050, _, hsz50, _⟩ := info_parts info5
              have hroom50 : l0.length ≤ c0 := HC0.out
              have hC50 : Kd.C (Kd.int .u8) _ (some ad437) l0.length l0 := HR0.out
              have ql50 : (4 : Int) ≤ (8 : Int) := (by omega)
              have hcut50 := cut_mid (P := Try.prog) 26 5 .i64 .i64 Try.underlying26 hi050 1 hsz50 (some ad437) l0.length c0 4 8 (by omega) ql50 q50 hroom50
              have hr50 := Kd.C_mid (lo := (4 : Int).toNat) (hi := (8 : Int).toNat) (c := c0) hC50 (by omega) (by omega) hroom50
              obtain ⟨A50, hA50⟩ : ∃ A1, A1 = (if c0 = (4 : Int).toNat then (some ad437) else ((some ad437) : Option Addr).map (·.add ((4 : Int).toNat * 1))) := ⟨_, rfl⟩
              obtain ⟨c50, hc50⟩ : ∃ c1, c1 = c0 - (4 : Int).toNat := ⟨_, rfl⟩
              have hy50 : y439.length = (8 : Int).toNat - (4 : Int).toNat := (by rw [Ny439.out, List.length_drop, List.length_take] <;> omega)
              rw [show ((l0).take (8 : Int).toNat).drop (4 : Int).toNat = y439 from Ny439.out.symm] at hr50
              replace hr50 : Kd.C (Kd.int .u8) _ A50 y439.length y439 := (by rw [hA50]; exact hr50)
              rw [← hy50, ← hA50, ← hc50] at hcut50
              have HR442 := Azz.mk hr50
              have HC442 := Azz.mk (show y439.length ≤ c50 from by rw [hy50, hc50]; exact Nat.sub_le_sub_right (Nat.le_trans (by omega) hroom50) _)
              clear hr50 hC50 hroom50 hi050 hsz50 hc50
              have KY50 := Azz.mk hy50
              have KA50 := Azz.mk hA50
              clear hy50 hA50
              replace q50 := eq_true q50
              have q51 : ((wrap64 (10 + (wrap64 (t436)))) : Int) ≤ ((l0.length : Int) : Int) := of_decide_eq_true (by first | (with_reducible assumption) | assumption)
              obtain ⟨i051, hi051, _, hsz51, _⟩ := info_parts info5
              have hroom51 : l0.length ≤ c0 := HC0.out
              have hC51 : Kd.C (Kd.int .u8) _ (some ad437) l0.length l0 := HR0.out
              have ql51 : (10 : Int) ≤ ((wrap64 (10 + (wrap64 (t436)))) : Int) := of_decide_eq_true (by first | (with_reducible assumption) | assumption)
              have hcut51 := cut_mid (P := Try.prog) 26 5 .i64 .i64 Try.underlying26 hi051 1 hsz51 (some ad437) l0.length c0 10 (wrap64 (10 + (wrap64 (t436)))) (by omega) ql51 q51 hroom51
              have hr51 := Kd.C_mid (lo := (10 : Int).toNat) (hi := ((wrap64 (10 + (wrap64 (t436)))) : Int).toNat) (c := c0) hC51 (by omega) (by omega) hroom51
              obtain ⟨A51, hA51⟩ : ∃ A1, A1 = (if c0 = (10 : Int).toNat then (some ad437) else ((some ad437) : Option Addr).map (·.add ((10 : Int).toNat * 1))) := ⟨_, rfl⟩
              obtain ⟨c51, hc51⟩ : ∃ c1, c1 = c0 - (10 : Int).toNat := ⟨_, rfl⟩
              have hy51 : y444.length = ((wrap64 (10 + (wrap64 (t436)))) : Int).toNat - (10 : Int).toNat := (by rw [Ny444.out, List.length_drop, List.length_take] <;> omega)
              rw [show ((l0).take ((wrap64 (10 + (wrap64 (t436)))) : Int).toNat).drop (10 : Int).toNat = y444 from Ny444.out.symm] at hr51
              replace hr51 : Kd.C (Kd.int .u8) _ A51 y444.length y444 := (by rw [hA51]; exact hr51)
              rw [← hy51, ← hA51, ← hc51] at hcut51
              have HR447 := Azz.mk hr51
              have HC447 := Azz.mk (show y444.length ≤ c51 from by rw [hy51, hc51]; exact Nat.sub_le_sub_right (Nat.le_trans (by omega) hroom51) _)
              clear hr51 hC51 hroom51 hi051 hsz51 hc51
              have KY51 := Azz.mk hy51
              have KA51 := Azz.mk hA51
              clear hy51 hA51
              replace q51 := eq_true q51
              refine start_ (n := 22) (S := fun w' => w'.cell? ⟨ad437.block, ad437.off + 2, none⟩ = some (.int .u8 (rd l0 2)) ∧ w'.cell? ⟨ad437.block, ad437.off + 3, none⟩ = some (.int .u8 (rd l0 3)) ∧ Sem.run Try.prog (convert 26 9 (.slice A51 y444.length c51)) w' = .ok (.string (strOfNums y444)) w') (ds := []) #[false, false, false, false, false, false, false, false, false, false, false, false, false, false, false, false, false, false, false, false, false, false] (by kernel_rfl) rfl rfl ⟨((HB.out.cell (World.block_lt_of_cell? w _ hw437_0)).trans hw437_0), ((HB.out.cell (World.block_lt_of_cell? w _ hw438_0)).trans hw438_0), (Kd.C_string (P := Try.prog) (A := A51) (c := c51) Try.underlying26 Try.underlying5 Try.underlying9 (Kd.C_below HR447.out (by repeat (first | (with_reducible first | exact HB.out | apply bal | apply pbN | apply bd1 | refine bst ?_ GE428.out) | exact HB.out))))⟩ (fun hHeld => ?_); refine with_tabW rf_ReadData.tab8 rf_ReadData.bits8 (fun HT_ HW_ => ?_)
              generalize wc.drew = w49 at BK428 HB HR442 HR447 hx437_0 hx438_0 hHeld ⊢
              refine pure_ (i := 0) (N := some 41) (v := ?_) (a' := ?_) #[true, false, false, false, false, false, false, false, false, false, false, false, false, false, false, false, false, false, false, false, false, false] rfl rfl (any_of HT_.out (by kernel_rfl)) (fun _ _ _ h => h) (Or.inl ⟨by rfl, ?_⟩) ?_ ?_
              rotate_left
              ·intro w'
               go_simp
               with_reducible rfl
              rotate_left
              ·simp only [Act.put, List.setIfInBounds_toArray, List.set_cons_zero, List.set_cons_succ, i64_w, i32_w]
               rfl
              refine pure_ (i := 1) (N := some 42) (v := ?_) (a' := ?_) #[true, true, false, false, false, false, false, false, false, false, false, false, false, false, false, false, false, false, false, false, false, false] rfl rfl (any_of HT_.out (by kernel_rfl)) (fun _ _ _ h => h) (Or.inl ⟨by rfl, ?_⟩) ?_ ?_
              rotate_left
              ·intro w'
               go_simp
               with_reducible rfl
              rotate_left
              ·simp only [Act.put, List.setIfInBounds_toArray, List.set_cons_zero, List.set_cons_succ, i64_w, i32_w]
               rfl
              refine pure_ (i := 4) (N := some 45) (v := ?_) (a' := ?_) #[true, true, false, false, true, false, false, false, false, false, false, false, false, false, false, false, false, false, false, false, false, false] rfl rfl (any_of HT_.out (by kernel_rfl)) (fun _ _ _ h => h) (Or.inl ⟨by rfl, ?_⟩) ?_ ?_
              rotate_left
              ·intro w'
               go_simp
               with_reducible rfl
              rotate_left
              ·simp only [Act.put, List.setIfInBounds_toArray, List.set_cons_zero, List.set_cons_succ, i64_w, i32_w]
               rfl
              refine pure_ (i := 5) (N := some 46) (v := ?_) (a' := ?_) #[true, true, false, false, true, true, false, false, false, false, false, false, false, false, false, false, false, false, false, false, false, false] rfl rfl (any_of HT_.out (by kernel_rfl)) (fun _ _ _ h => h) (Or.inl ⟨by rfl, ?_⟩) ?_ ?_
              rotate_left
              ·intro w'
               go_simp
               with_reducible rfl
              rotate_left
              ·simp only [Act.put, List.setIfInBounds_toArray, List.set_cons_zero, List.set_cons_succ, i64_w, i32_w]
               rfl
              refine pure_ (i := 8) (N := some 49) (v := ?_) (a' := ?_) #[true, true, false, false, true, true, false, false, true, false, false, false, false, false, false, false, false, false, false, false, false, false] rfl rfl (any_of HT_.out (by kernel_rfl)) (fun _ _ _ h => h) (Or.inl ⟨by rfl, ?_⟩) ?_ ?_
              rotate_left
              ·intro w'
               go_simp
               with_reducible rfl
              rotate_left
              ·simp only [Act.put, List.setIfInBounds_toArray, List.set_cons_zero, List.set_cons_succ, i64_w, i32_w]
               rfl
              refine pure_ (i := 9) (N := some 50) (v := ?_) (a' := ?_) #[true, true, false, false, true, true, false, false, true, true, false, false, false, false, false, false, false, false, false, false, false, false] rfl rfl (any_of HT_.out (by kernel_rfl)) (fun _ _ _ h => h) (Or.inl ⟨by rfl, ?_⟩) ?_ ?_
              rotate_left
              ·intro w'
               go_simp
               with_reducible rfl
              rotate_left
              ·simp only [Act.put, List.setIfInBounds_toArray, List.set_cons_zero, List.set_cons_succ, i64_w, i32_w]
               rfl
              refine pure_ (i := 12) (N := some 53) (v := ?_) (a' := ?_) #[true, true, false, false, true, true, false, false, true, true, false, false, true, false, false, false, false, false, false, false, false, false] rfl rfl (any_of HT_.out (by kernel_rfl)) (fun _ _ _ h => h) (Or.inl ⟨by rfl, ?_⟩) ?_ ?_
              rotate_left
              ·intro w'
               go_simp
               with_reducible rfl
              rotate_left
              ·simp only [Act.put, List.setIfInBounds_toArray, List.set_cons_zero, List.set_cons_succ, i64_w, i32_w]
               rfl
              refine pure_ (i := 13) (N := some 54) (v := ?_) (a' := ?_) #[true, true, false, false, true, true, false, false, true, true, false, false, true, true, false, false, false, false, false, false, false, false] rfl rfl (any_of HT_.out (by kernel_rfl)) (fun _ _ _ h => h) (Or.inl ⟨by rfl, ?_⟩) ?_ ?_
              rotate_left
              ·intro w'
               go_simp
               with_reducible rfl
              rotate_left
              ·simp only [Act.put, List.setIfInBounds_toArray, List.set_cons_zero, List.set_cons_succ, i64_w, i32_w]
               rfl
              refine pure_ (i := 14) (N := some 55) (v := ?_) (a' := ?_) #[true, true, false, false, true, true, false, false, true, true, false, false, true, true, true, false, false, false, false, false, false, false] rfl rfl (any_of HT_.out (by kernel_rfl)) (fun _ _ _ h => h) (Or.inl ⟨by rfl, ?_⟩) ?_ ?_
              rotate_left
              ·intro w'
               go_simp
               with_reducible rfl
              rotate_left
              ·simp only [Act.put, List.setIfInBounds_toArray, List.set_cons_zero, List.set_cons_succ, i64_w, i32_w]
               rfl
              refine pure_ (i := 15) (N := some 56) (v := ?_) (a' := ?_) #[true, true, false, false, true, true, false, false, true, true, false, false, true, true, true, true, false, false, false, false, false, false] rfl rfl (any_of HT_.out (by kernel_rfl)) (fun _ _ _ h => h) (Or.inl ⟨by rfl, ?_⟩) ?_ ?_
              rotate_left
              ·intro w'
               go_simp
               with_reducible rfl
              rotate_left
              ·simp only [Act.put, List.setIfInBounds_toArray, List.set_cons_zero, List.set_cons_succ, i64_w, i32_w]
               rfl
              refine pure_ (i := 17) (N := some 58) (v := ?_) (a' := ?_) #[true, true, false, false, true, true, false, false, true, true, false, false, true, true, true, true, false, true, false, false, false, false] rfl rfl (any_of HT_.out (by kernel_rfl)) (fun _ _ _ h => h) (Or.inl ⟨by rfl, ?_⟩) ?_ ?_
              rotate_left
              ·intro w'
               go_simp
               with_reducible rfl
              rotate_left
              ·simp only [Act.put, List.setIfInBounds_toArray, List.set_cons_zero, List.set_cons_succ, i64_w, i32_w]
               rfl
              refine pure_ (i := 18) (N := some 59) (v := ?_) (a' := ?_) #[true, true, false, false, true, true, false, false, true, true, false, false, true, true, true, true, false, true, true, false, false, false] rfl rfl (any_of HT_.out (by kernel_rfl)) (fun _ _ _ h => h) (Or.inl ⟨by rfl, ?_⟩) ?_ ?_
              rotate_left
              ·intro w'
               go_simp
               with_reducible rfl
              rotate_left
              ·simp only [Act.put, List.setIfInBounds_toArray, List.set_cons_zero, List.set_cons_succ, i64_w, i32_w]
               rfl
              refine take_ (i := 2) (N := some 43) (v := ?_) (a' := ?_) #[true, true, true, false, true, true, false, false, true, true, false, false, true, true, true, true, false, true, true, false, false, false] rfl rfl (take_ofW HT_.out HW_.out (by kernel_rfl)) (fun _ _ _ h => h) (Or.inl ⟨by rfl, ?_⟩) hHeld ?_ ?_
              rotate_left
              ·rintro w' ⟨s0, s1, s2⟩
               go_simp
               with_reducible rfl
              rotate_left
              ·simp only [Act.put, List.setIfInBounds_toArray, List.set_cons_zero, List.set_cons_succ, i64_w, i32_w]
               rfl
              refine pure_ (i := 3) (N := some 44) (v := ?_) (a' := ?_) #[true, true, true, true, true, true, false, false, true, true, false, false, true, true, true, true, false, true, true, false, false, false] rfl rfl (any_of HT_.out (by kernel_rfl)) (fun _ _ _ h => h) (Or.inl ⟨by rfl, ?_⟩) ?_ ?_
              rotate_left
              ·intro w'
               go_simp
               with_reducible rfl
              rotate_left
              ·simp only [Act.put, List.setIfInBounds_toArray, List.set_cons_zero, List.set_cons_succ, i64_w, i32_w]
               rfl
              refine take_ (i := 6) (N := some 47) (v := ?_) (a' := ?_) #[true, true, true, true, true, true, true, false, true, true, false, false, true, true, true, true, false, true, true, false, false, false] rfl rfl (take_ofW HT_.out HW_.out (by kernel_rfl)) (fun _ _ _ h => h) (Or.inl ⟨by rfl, ?_⟩) hHeld ?_ ?_
              rotate_left
              ·rintro w' ⟨s0, s1, s2⟩
               go_simp
               with_reducible rfl
              rotate_left
              ·simp only [Act.put, List.setIfInBounds_toArray, List.set_cons_zero, List.set_cons_succ, i64_w, i32_w]
               rfl
              refine pure_ (i := 7) (N := some 48) (v := ?_) (a' := ?_) #[true, true, true, true, true, true, true, true, true, true, false, false, true, true, true, true, false, true, true, false, false, false] rfl rfl (any_of HT_.out (by kernel_rfl)) (fun _ _ _ h => h) (Or.inl ⟨by rfl, ?_⟩) ?_ ?_
              rotate_left
              ·intro w'
               go_simp
               with_reducible rfl
              rotate_left
              ·simp only [Act.put, List.setIfInBounds_toArray, List.set_cons_zero, List.set_cons_succ, i64_w, i32_w]
               rfl
              refine take_ (i := 16) (N := some 57) (v := ?_) (a' := ?_) #[true, true, true, true, true, true, true, true, true, true, false, false, true, true, true, true, true, true, true, false, false, false] rfl rfl (take_ofW HT_.out HW_.out (by kernel_rfl)) (fun _ _ _ h => h) (Or.inl ⟨by rfl, ?_⟩) hHeld ?_ ?_
              rotate_left
              ·rintro w' ⟨s0, s1, s2⟩
               go_simp
               with_reducible rfl
              rotate_left
              ·simp only [Act.put, List.setIfInBounds_toArray, List.set_cons_zero, List.set_cons_succ, i64_w, i32_w]
               rfl
              refine join_ (σ := Nat) 1 #[true, true, true, true, true, true, true, true, true, true, true, true, true, true, true, true, true, true, true, true, true, false] (fun s_ => [(51, .int .u64 t443), (5, .pointer (some ⟨s_, 0, none⟩)), (52, .int .i64 (wrap64 (t443))), (60, .agg #[.int .i64 (wrap64 (rd l0 2)), .int .i64 (wrap64 (rd l0 3)), .int .i64 (wrap64 (t443)), .string (strOfNums y444), .int .i64 (l0.length : Int)])]) (fun s_ w' => (w'.cell? ⟨ad437.block, ad437.off + 2, none⟩ = some (.int .u8 (rd l0 2)) ∧ w'.cell? ⟨ad437.block, ad437.off + 3, none⟩ = some (.int .u8 (rd l0 3)) ∧ Sem.run Try.prog (convert 26 9 (.slice A51 y444.length c51)) w' = .ok (.string (strOfNums y444)) w') ∧ (w'.heap[gb428]? = some (.cells #[.int .i64 0, .int .i64 0, .int .i64 0, .string (⟨#[]⟩ : ByteArray), .int .i64 0] 36 (0, 0))) ∧ (w'.heap[s_]? = some (.cells #[.int .i64 0, .int .i64 0, .int .i64 0, .string (⟨#[]⟩ : ByteArray), .int .i64 0] 36 (0, 0))) ∧ (w.heap.size ≤ s_) ∧ (w.heap.size ≤ s_) ∧ (gb428 ≠ s_) ∧ (s_ ≠ gb428) ∧ (Below w.heap.size w w')) ?_ ?_
              rotate_left
              ·intro hCont
               refine two_ (i := 10) (j := 20) (Ni := some 51) (Nj := some 5) #[true, true, true, true, true, true, true, true, true, true, true, false, true, true, true, true, true, true, true, false, false, false] #[true, true, true, true, true, true, true, true, true, true, false, false, true, true, true, true, true, true, true, false, true, false] rfl rfl rfl rfl (two_of HT_.out (by kernel_rfl)) (by decide) (by decide) (fun K hK => ?_) (fun K hK => ?_)
               ·skip
                refine goes_ Try.func36 (by kernel_rfl) rfl #[.slice A50 y439.length c50] (by rfl) rfl rfl (by (try simp only [List.map_toArray, List.map_cons, List.map_nil]); first | done | rfl | (simp only [List.length_drop, List.length_take]; rfl)) ?_
                with_reducible refine (rf_value.calls kj1 _ _ y439 t443 _ ?side1 ?side2 A21.out).mono ?_
                (case side1 => repeat (first | exact (Kd.C_below HR442.out HB.out) | (with_reducible refine Kd.C_alloc ?_ _) | (with_reducible refine Kd.C_drewN ?_ _) | (with_reducible refine Kd.C_drew ?_)))
                (case side2 => exact HC442.out)
                rintro e w' ⟨rfl, ⟨nd, rfl⟩⟩
                refine ⟨_, rfl, ?_⟩
                refine hK.out _ _ ⟨((HB.out.cell (World.block_lt_of_cell? w _ hw437_0)).trans hw437_0), ((HB.out.cell (World.block_lt_of_cell? w _ hw438_0)).trans hw438_0), (Kd.C_string (P := Try.prog) (A := A51) (c := c51) Try.underlying26 Try.underlying5 Try.underlying9 (Kd.C_below HR447.out (by repeat (first | (with_reducible first | exact HB.out | apply bal | apply pbN | apply bd1 | refine bst ?_ GE428.out) | exact HB.out))))⟩ (fun hHeld => ?_)
                clear hK K
                refine norm_ (a' := ?_) ?_ ?_
                rotate_left
                ·show Act.put _ (some 51) _ = _
                 simp only [Act.put, List.setIfInBounds_toArray, List.set_cons_zero, List.set_cons_succ, i64_w, i32_w]
                 rfl
                refine pure_ (i := 11) (N := some 52) (v := ?_) (a' := ?_) #[true, true, true, true, true, true, true, true, true, true, true, true, true, true, true, true, true, true, true, false, false, false] rfl rfl (any_of HT_.out (by kernel_rfl)) (fun _ _ _ h => h) (Or.inl ⟨by rfl, ?_⟩) ?_ ?_
                rotate_left
                ·intro w'
                 go_simp
                 with_reducible rfl
                rotate_left
                ·simp only [Act.put, List.setIfInBounds_toArray, List.set_cons_zero, List.set_cons_succ, i64_w, i32_w]
                 rfl
                refine pure_ (i := 19) (N := some 60) (v := ?_) (a' := ?_) #[true, true, true, true, true, true, true, true, true, true, true, true, true, true, true, true, true, true, true, true, false, false] rfl rfl (any_of HT_.out (by kernel_rfl)) (fun _ _ _ h => h) (Or.inl ⟨by rfl, ?_⟩) ?_ ?_
                rotate_left
                ·intro w'
                 go_simp
                 with_reducible rfl
                rotate_left
                ·simp only [Act.put, List.setIfInBounds_toArray, List.set_cons_zero, List.set_cons_succ, i64_w, i32_w]
                 rfl
                refine one_ (i := 20) (N := some 5) #[true, true, true, true, true, true, true, true, true, true, true, true, true, true, true, true, true, true, true, true, true, false] rfl rfl (one_of HT_.out (by kernel_rfl)) (by decide) (fun K hK => ?_)
                refine box_step ?hg (N := 5) ?hd (cs := #[.int .i64 0, .int .i64 0, .int .i64 0, .string (⟨#[]⟩ : ByteArray), .int .i64 0]) (t := 36) ?hr ?_; (case hd => rfl); (case hg => rfl); (case hr => first | (go_simp; done) | (go_simp; rfl))
                intro gb448 hg w52 hbox hb
                have n0_ := Azz.mk (blk_below (g := gb428) (o := .cells #[.int .i64 0, .int .i64 0, .int .i64 0, .string (⟨#[]⟩ : ByteArray), .int .i64 0] 36 (0, 0)) (by (with_reducible repeat (first | refine kdN ?_ _ | refine kd1 ?_ | refine kal ?_ _)); exact BK428.out) hb)
                have n1_ := Azz.mk (below_step (by repeat (first | (with_reducible first | exact HB.out | apply bal | apply pbN | apply bd1 | refine bst ?_ GE428.out) | exact HB.out)) hb)
                have n2_ := Azz.mk (hbox)
                have n3_ := Azz.mk ((by rw [hg]; exact (below_size (by repeat (first | (with_reducible first | exact HB.out | apply bal | apply pbN | apply bd1 | refine bst ?_ GE428.out) | exact HB.out))) : w.heap.size ≤ gb448))
                have n4_ := Azz.mk ((by rw [hg]; exact (below_size (by repeat (first | (with_reducible first | exact HB.out | apply bal | apply pbN | apply bd1 | refine bst ?_ GE428.out) | exact HB.out))) : w.heap.size ≤ gb448))
                have n5_ := Azz.mk ((by rw [hg]; exact Nat.ne_of_lt (blk_lt (g := gb428) (o := .cells #[.int .i64 0, .int .i64 0, .int .i64 0, .string (⟨#[]⟩ : ByteArray), .int .i64 0] 36 (0, 0)) (by (with_reducible repeat (first | refine kdN ?_ _ | refine kd1 ?_ | refine kal ?_ _)); exact BK428.out)) : gb428 ≠ gb448))
                have n6_ := Azz.mk ((by rw [hg]; exact Nat.ne_of_gt (blk_lt (g := gb428) (o := .cells #[.int .i64 0, .int .i64 0, .int .i64 0, .string (⟨#[]⟩ : ByteArray), .int .i64 0] 36 (0, 0)) (by (with_reducible repeat (first | refine kdN ?_ _ | refine kd1 ?_ | refine kal ?_ _)); exact BK428.out)) : gb448 ≠ gb428))
                clear BK428
                clear HB
                have BK428 := n0_
                have HB := n1_
                have BK448 := n2_
                have GW448 := n3_
                have GE448 := n4_
                have NB428_448 := n5_
                have NB448_428 := n6_
                clear n0_ n1_ n2_ n3_ n4_ n5_ n6_
                clear hb hbox hg
                refine hK.out _ _ ⟨((HB.out.cell (World.block_lt_of_cell? w _ hw437_0)).trans hw437_0), ((HB.out.cell (World.block_lt_of_cell? w _ hw438_0)).trans hw438_0), (Kd.C_string (P := Try.prog) (A := A51) (c := c51) Try.underlying26 Try.underlying5 Try.underlying9 (Kd.C_below HR447.out (by repeat (first | (with_reducible first | exact HB.out | apply bal | apply pbN | apply bd1 | refine bst ?_ GE428.out) | exact HB.out))))⟩ (fun hHeld => ?_)
                clear hK K
                refine norm_ (a' := ?_) ?_ ?_
                rotate_left
                ·show Act.put _ (some 5) _ = _
                 simp only [Act.put, List.setIfInBounds_toArray, List.set_cons_zero, List.set_cons_succ, i64_w, i32_w]
                 rfl
                exact norm_ (by first | (simp only [putAll, Act.put, List.setIfInBounds_toArray, List.set_cons_zero, List.set_cons_succ]; done) | (simp only [putAll, Act.put, List.setIfInBounds_toArray, List.set_cons_zero, List.set_cons_succ, IntKind.wrap_u32, IntKind.wrap_u8]; done)) (hCont (gb448) _ ⟨hHeld, (by (with_reducible repeat (first | refine kdN ?_ _ | refine kd1 ?_ | refine kal ?_ _)); exact BK428.out), (by (with_reducible repeat (first | refine kdN ?_ _ | refine kd1 ?_ | refine kal ?_ _)); exact BK448.out), GW448.out, GE448.out, NB428_448.out, NB448_428.out, (by repeat (first | (with_reducible first | exact HB.out | apply bal | apply pbN | apply bd1 | refine bst ?_ GE428.out | refine bst ?_ GE448.out) | exact HB.out))⟩)
               ·skip
                refine box_step ?hg (N := 5) ?hd (cs := #[.int .i64 0, .int .i64 0, .int .i64 0, .string (⟨#[]⟩ : ByteArray), .int .i64 0]) (t := 36) ?hr ?_; (case hd => rfl); (case hg => rfl); (case hr => first | (go_simp; done) | (go_simp; rfl))
                intro gb448 hg w52 hbox hb
                have n0_ := Azz.mk (blk_below (g := gb428) (o := .cells #[.int .i64 0, .int .i64 0, .int .i64 0, .string (⟨#[]⟩ : ByteArray), .int .i64 0] 36 (0, 0)) (by (with_reducible repeat (first | refine kdN ?_ _ | refine kd1 ?_ | refine kal ?_ _)); exact BK428.out) hb)
                have n1_ := Azz.mk (below_step (by repeat (first | (with_reducible first | exact HB.out | apply bal | apply pbN | apply bd1 | refine bst ?_ GE428.out) | exact HB.out)) hb)
                have n2_ := Azz.mk (hbox)
                have n3_ := Azz.mk ((by rw [hg]; exact (below_size (by repeat (first | (with_reducible first | exact HB.out | apply bal | apply pbN | apply bd1 | refine bst ?_ GE428.out) | exact HB.out))) : w.heap.size ≤ gb448))
                have n4_ := Azz.mk ((by rw [hg]; exact (below_size (by repeat (first | (with_reducible first | exact HB.out | apply bal | apply pbN | apply bd1 | refine bst ?_ GE428.out) | exact HB.out))) : w.heap.size ≤ gb448))
                have n5_ := Azz.mk ((by rw [hg]; exact Nat.ne_of_lt (blk_lt (g := gb428) (o := .cells #[.int .i64 0, .int .i64 0, .int .i64 0, .string (⟨#[]⟩ : ByteArray), .int .i64 0] 36 (0, 0)) (by (with_reducible repeat (first | refine kdN ?_ _ | refine kd1 ?_ | refine kal ?_ _)); exact BK428.out)) : gb428 ≠ gb448))
                have n6_ := Azz.mk ((by rw [hg]; exact Nat.ne_of_gt (blk_lt (g := gb428) (o := .cells #[.int .i64 0, .int .i64 0, .int .i64 0, .string (⟨#[]⟩ : ByteArray), .int .i64 0] 36 (0, 0)) (by (with_reducible repeat (first | refine kdN ?_ _ | refine kd1 ?_ | refine kal ?_ _)); exact BK428.out)) : gb448 ≠ gb428))
                clear BK428
                clear HB
                have BK428 := n0_
                have HB := n1_
                have BK448 := n2_
                have GW448 := n3_
                have GE448 := n4_
                have NB428_448 := n5_
                have NB448_428 := n6_
                clear n0_ n1_ n2_ n3_ n4_ n5_ n6_
                clear hb hbox hg
                refine hK.out _ _ ⟨((HB.out.cell (World.block_lt_of_cell? w _ hw437_0)).trans hw437_0), ((HB.out.cell (World.block_lt_of_cell? w _ hw438_0)).trans hw438_0), (Kd.C_string (P := Try.prog) (A := A51) (c := c51) Try.underlying26 Try.underlying5 Try.underlying9 (Kd.C_below HR447.out (by repeat (first | (with_reducible first | exact HB.out | apply bal | apply pbN | apply bd1 | refine bst ?_ GE428.out) | exact HB.out))))⟩ (fun hHeld => ?_)
                clear hK K
                refine norm_ (a' := ?_) ?_ ?_
                rotate_left
                ·show Act.put _ (some 5) _ = _
                 simp only [Act.put, List.setIfInBounds_toArray, List.set_cons_zero, List.set_cons_succ, i64_w, i32_w]
                 rfl
                refine one_ (i := 10) (N := some 51) #[true, true, true, true, true, true, true, true, true, true, true, false, true, true, true, true, true, true, true, false, true, false] rfl rfl (one_of HT_.out (by kernel_rfl)) (by decide) (fun K hK => ?_)
                refine goes_ Try.func36 (by kernel_rfl) rfl #[.slice A50 y439.length c50] (by rfl) rfl rfl (by (try simp only [List.map_toArray, List.map_cons, List.map_nil]); first | done | rfl | (simp only [List.length_drop, List.length_take]; rfl)) ?_
                with_reducible refine (rf_value.calls kj1 _ _ y439 t443 _ ?side1 ?side2 A21.out).mono ?_
                (case side1 => repeat (first | exact (Kd.C_below HR442.out HB.out) | (with_reducible refine Kd.C_alloc ?_ _) | (with_reducible refine Kd.C_drewN ?_ _) | (with_reducible refine Kd.C_drew ?_)))
                (case side2 => exact HC442.out)
                rintro e w' ⟨rfl, ⟨nd, rfl⟩⟩
                refine ⟨_, rfl, ?_⟩
                refine hK.out _ _ ⟨((HB.out.cell (World.block_lt_of_cell? w _ hw437_0)).trans hw437_0), ((HB.out.cell (World.block_lt_of_cell? w _ hw438_0)).trans hw438_0), (Kd.C_string (P := Try.prog) (A := A51) (c := c51) Try.underlying26 Try.underlying5 Try.underlying9 (Kd.C_below HR447.out (by repeat (first | (with_reducible first | exact HB.out | apply bal | apply pbN | apply bd1 | refine bst ?_ GE428.out) | exact HB.out))))⟩ (fun hHeld => ?_)
                clear hK K
                refine norm_ (a' := ?_) ?_ ?_
                rotate_left
                ·show Act.put _ (some 51) _ = _
                 simp only [Act.put, List.setIfInBounds_toArray, List.set_cons_zero, List.set_cons_succ, i64_w, i32_w]
                 rfl
                refine pure_ (i := 11) (N := some 52) (v := ?_) (a' := ?_) #[true, true, true, true, true, true, true, true, true, true, true, true, true, true, true, true, true, true, true, false, true, false] rfl rfl (any_of HT_.out (by kernel_rfl)) (fun _ _ _ h => h) (Or.inl ⟨by rfl, ?_⟩) ?_ ?_
                rotate_left
                ·intro w'
                 go_simp
                 with_reducible rfl
                rotate_left
                ·simp only [Act.put, List.setIfInBounds_toArray, List.set_cons_zero, List.set_cons_succ, i64_w, i32_w]
                 rfl
                refine pure_ (i := 19) (N := some 60) (v := ?_) (a' := ?_) #[true, true, true, true, true, true, true, true, true, true, true, true, true, true, true, true, true, true, true, true, true, false] rfl rfl (any_of HT_.out (by kernel_rfl)) (fun _ _ _ h => h) (Or.inl ⟨by rfl, ?_⟩) ?_ ?_
                rotate_left
                ·intro w'
                 go_simp
                 with_reducible rfl
                rotate_left
                ·simp only [Act.put, List.setIfInBounds_toArray, List.set_cons_zero, List.set_cons_succ, i64_w, i32_w]
                 rfl
                exact norm_ (by first | (simp only [putAll, Act.put, List.setIfInBounds_toArray, List.set_cons_zero, List.set_cons_succ]; done) | (simp only [putAll, Act.put, List.setIfInBounds_toArray, List.set_cons_zero, List.set_cons_succ, IntKind.wrap_u32, IntKind.wrap_u8]; done)) (hCont (gb448) _ ⟨hHeld, (by (with_reducible repeat (first | refine kdN ?_ _ | refine kd1 ?_ | refine kal ?_ _)); exact BK428.out), (by (with_reducible repeat (first | refine kdN ?_ _ | refine kd1 ?_ | refine kal ?_ _)); exact BK448.out), GW448.out, GE448.out, NB428_448.out, NB448_428.out, (by repeat (first | (with_reducible first | exact HB.out | apply bal | apply pbN | apply bd1 | refine bst ?_ GE428.out | refine bst ?_ GE448.out) | exact HB.out))⟩)
              rintro gb448 w53 ⟨hS_, h0_, h1_, h2_, h3_, h4_, h5_, h6_⟩
              have n0_ : Azz (w53.heap[gb428]? = some (.cells #[.int .i64 0, .int .i64 0, .int .i64 0, .string (⟨#[]⟩ : ByteArray), .int .i64 0] 36 (0, 0))) := ⟨h0_⟩
              have n1_ : Azz (w53.heap[gb448]? = some (.cells #[.int .i64 0, .int .i64 0, .int .i64 0, .string (⟨#[]⟩ : ByteArray), .int .i64 0] 36 (0, 0))) := ⟨h1_⟩
              have n2_ : Azz (w.heap.size ≤ gb448) := ⟨h2_⟩
              have n3_ : Azz (w.heap.size ≤ gb448) := ⟨h3_⟩
              have n4_ : Azz (gb428 ≠ gb448) := ⟨h4_⟩
              have n5_ : Azz (gb448 ≠ gb428) := ⟨h5_⟩
              have n6_ : Azz (Below w.heap.size w w53) := ⟨h6_⟩
              clear BK428
              clear HB
              clear h0_ h1_ h2_ h3_ h4_ h5_ h6_
              have BK428 := n0_
              have BK448 := n1_
              have GW448 := n2_
              have GE448 := n3_
              have NB428_448 := n4_
              have NB448_428 := n5_
              have HB := n6_
              clear n0_ n1_ n2_ n3_ n4_ n5_ n6_
              have hHeld : w53.cell? ⟨ad437.block, ad437.off + 2, none⟩ = some (.int .u8 (rd l0 2)) ∧ w53.cell? ⟨ad437.block, ad437.off + 3, none⟩ = some (.int .u8 (rd l0 3)) ∧ Sem.run Try.prog (convert 26 9 (.slice A51 y444.length c51)) w53 = .ok (.string (strOfNums y444)) w53 := hS_
              refine norm_ (a' := ?_) ?_ ?_
              rotate_left
              ·simp only [putAll, Act.put, List.setIfInBounds_toArray, List.set_cons_zero, List.set_cons_succ]
               rfl
              refine one_ (i := 21) (N := none) #[true, true, true, true, true, true, true, true, true, true, true, true, true, true, true, true, true, true, true, true, true, true] rfl rfl (one_of HT_.out (by kernel_rfl)) (by decide) (fun K hK => ?_)
              have hs54 : World.cell? _ ⟨gb448, 0, none⟩ = some (.int .i64 0) := (kcl BK448.out 0).trans rfl
              have hfs54 := kfz BK448.out 0
              have hns54_0 := NB428_448.out
              have hms54_0 := NB448_428.out
              have hs55 : World.cell? _ ⟨gb448, 1, none⟩ = some (.int .i64 0) := (kcl BK448.out 1).trans rfl
              have hfs55 := kfz BK448.out 1
              have hns55_0 := NB428_448.out
              have hms55_0 := NB448_428.out
              have hs56 : World.cell? _ ⟨gb448, 2, none⟩ = some (.int .i64 0) := (kcl BK448.out 2).trans rfl
              have hfs56 := kfz BK448.out 2
              have hns56_0 := NB428_448.out
              have hms56_0 := NB448_428.out
              have hs57 : World.cell? _ ⟨gb448, 3, none⟩ = some (.string (⟨#[]⟩ : ByteArray)) := (kcl BK448.out 3).trans rfl
              have hfs57 := kfz BK448.out 3
              have hns57_0 := NB428_448.out
              have hms57_0 := NB448_428.out
              have hs58 : World.cell? _ ⟨gb448, 4, none⟩ = some (.int .i64 0) := (kcl BK448.out 4).trans rfl
              have hfs58 := kfz BK448.out 4
              have hns58_0 := NB428_448.out
              have hms58_0 := NB448_428.out
              refine skip_ (w1 := ?_) (by rfl) rfl ?_ ?_
              rotate_left
              ·go_simp
               rfl
              refine hK.out _ _ ⟨((cell_far (p := ⟨gb448, _, none⟩) (cell_ne hw437_0 GW448.out) _).trans (((cell_far (p := ⟨gb448, _, none⟩) (cell_ne hw437_0 GW448.out) _).trans (((cell_far (p := ⟨gb448, _, none⟩) (cell_ne hw437_0 GW448.out) _).trans (((cell_far (p := ⟨gb448, _, none⟩) (cell_ne hw437_0 GW448.out) _).trans (((cell_far (p := ⟨gb448, _, none⟩) (cell_ne hw437_0 GW448.out) _).trans (hHeld.1)))))))))), ((cell_far (p := ⟨gb448, _, none⟩) (cell_ne hw438_0 GW448.out) _).trans (((cell_far (p := ⟨gb448, _, none⟩) (cell_ne hw438_0 GW448.out) _).trans (((cell_far (p := ⟨gb448, _, none⟩) (cell_ne hw438_0 GW448.out) _).trans (((cell_far (p := ⟨gb448, _, none⟩) (cell_ne hw438_0 GW448.out) _).trans (((cell_far (p := ⟨gb448, _, none⟩) (cell_ne hw438_0 GW448.out) _).trans (hHeld.2.1)))))))))), (Kd.C_string (P := Try.prog) (A := A51) (c := c51) Try.underlying26 Try.underlying5 Try.underlying9 (Kd.C_below HR447.out (by repeat (first | (with_reducible first | exact (bst (bst (bst (bst (bst HB.out GE448.out) GE448.out) GE448.out) GE448.out) GE448.out) | apply bal | apply pbN | apply bd1 | refine bst ?_ GE428.out) | exact (bst (bst (bst (bst (bst HB.out GE448.out) GE448.out) GE448.out) GE448.out) GE448.out)))))⟩ (fun hHeld => ?_)
              clear hK K
              refine done_ (done_of HT_.out (by kernel_rfl)) ?_
              have hnb59 := NB448_428.out
              have hnc59 := NB428_448.out
              have hcz60_0 : World.cell? _ ⟨gb448, 0, none⟩ = some (.int .i64 0) := (kcl BK448.out 0).trans rfl
              have hcz60_1 : World.cell? _ ⟨gb448, 1, none⟩ = some (.int .i64 0) := (kcl BK448.out 1).trans rfl
              have hcz60_2 : World.cell? _ ⟨gb448, 2, none⟩ = some (.int .i64 0) := (kcl BK448.out 2).trans rfl
              have hcz60_3 : World.cell? _ ⟨gb448, 3, none⟩ = some (.string (⟨#[]⟩ : ByteArray)) := (kcl BK448.out 3).trans rfl
              have hcz60_4 : World.cell? _ ⟨gb448, 4, none⟩ = some (.int .i64 0) := (kcl BK448.out 4).trans rfl
              have hfz60_0 := kfz BK448.out 0
              have hfz60_1 := kfz BK448.out 1
              have hfz60_2 := kfz BK448.out 2
              have hfz60_3 := kfz BK448.out 3
              have hfz60_4 := kfz BK448.out 4
              try go_wp2_with (first | ((with_reducible refine gate_callee (f := 18) rfl ?_); refine goesL_ (some 62) rfl rfl Try.func18 (by kernel_rfl) rfl #[.agg #[.int .i64 (wrap64 (rd l0 2)), .int .i64 (wrap64 (rd l0 3)), .int .i64 (wrap64 (t443)), .string (strOfNums y444), .int .i64 (l0.length : Int)]] rfl (by (try simp only [List.map_toArray, List.map_cons, List.map_nil]); first | done | rfl | (simp only [List.length_drop, List.length_take]; rfl)) ?_; (with_reducible refine (rf_RightData.calls (wrap64 (rd l0 2)) (wrap64 (rd l0 3)) (wrap64 (t443)) (strOfNums y444) (l0.length : Int) true _ A24.out).mono ?_); rintro e w61 ⟨rfl, hb⟩; refine ⟨_, rfl, ?_⟩; have n0_ := Azz.mk (blk_below (g := gb428) (o := .cells #[.int .i64 0, .int .i64 0, .int .i64 0, .string (⟨#[]⟩ : ByteArray), .int .i64 0] 36 (0, 0)) (by (with_reducible repeat (first | refine kdN ?_ _ | refine kd1 ?_ | refine kal ?_ _)); refine blk_far ?_ NB428_448.out _; (with_reducible repeat (first | refine kdN ?_ _ | refine kd1 ?_ | refine kal ?_ _)); refine blk_far ?_ NB428_448.out _; (with_reducible repeat (first | refine kdN ?_ _ | refine kd1 ?_ | refine kal ?_ _)); refine blk_far ?_ NB428_448.out _; (with_reducible repeat (first | refine kdN ?_ _ | refine kd1 ?_ | refine kal ?_ _)); refine blk_far ?_ NB428_448.out _; (with_reducible repeat (first | refine kdN ?_ _ | refine kd1 ?_ | refine kal ?_ _)); refine blk_far ?_ NB428_448.out _; (with_reducible repeat (first | refine kdN ?_ _ | refine kd1 ?_ | refine kal ?_ _)); exact BK428.out) hb); have n1_ := Azz.mk (blk_below (g := gb448) (o := .cells #[.int .i64 (wrap64 (rd l0 2)), .int .i64 (wrap64 (rd l0 3)), .int .i64 (wrap64 (t443)), .string (strOfNums y444), .int .i64 (l0.length : Int)] 36 (0, 0)) (by (with_reducible repeat (first | refine kdN ?_ _ | refine kd1 ?_ | refine kal ?_ _)); refine blk_put (cs := #[.int .i64 (wrap64 (rd l0 2)), .int .i64 (wrap64 (rd l0 3)), .int .i64 (wrap64 (t443)), .string (strOfNums y444), .int .i64 0]) ?_ 4 _ rfl; (with_reducible repeat (first | refine kdN ?_ _ | refine kd1 ?_ | refine kal ?_ _)); refine blk_put (cs := #[.int .i64 (wrap64 (rd l0 2)), .int .i64 (wrap64 (rd l0 3)), .int .i64 (wrap64 (t443)), .string (⟨#[]⟩ : ByteArray), .int .i64 0]) ?_ 3 _ rfl; (with_reducible repeat (first | refine kdN ?_ _ | refine kd1 ?_ | refine kal ?_ _)); refine blk_put (cs := #[.int .i64 (wrap64 (rd l0 2)), .int .i64 (wrap64 (rd l0 3)), .int .i64 0, .string (⟨#[]⟩ : ByteArray), .int .i64 0]) ?_ 2 _ rfl; (with_reducible repeat (first | refine kdN ?_ _ | refine kd1 ?_ | refine kal ?_ _)); refine blk_put (cs := #[.int .i64 (wrap64 (rd l0 2)), .int .i64 0, .int .i64 0, .string (⟨#[]⟩ : ByteArray), .int .i64 0]) ?_ 1 _ rfl; (with_reducible repeat (first | refine kdN ?_ _ | refine kd1 ?_ | refine kal ?_ _)); refine blk_put (cs := #[.int .i64 0, .int .i64 0, .int .i64 0, .string (⟨#[]⟩ : ByteArray), .int .i64 0]) ?_ 0 _ rfl; (with_reducible repeat (first | refine kdN ?_ _ | refine kd1 ?_ | refine kal ?_ _)); exact BK448.out) hb); have n2_ := Azz.mk (below_step (by repeat (first | (with_reducible first | exact HB.out | apply bal | apply pbN | apply bd1 | refine bst ?_ GE428.out | refine bst ?_ GE448.out) | exact HB.out)) hb); clear BK428; clear BK448; clear HB; have BK428 := n0_; have BK448 := n1_; have HB := n2_; clear n0_ n1_ n2_; (try clear hb); (try clear hb2); (try clear hk); (try clear hi); have hcz62_0 : World.cell? _ ⟨gb448, 0, none⟩ = some (.int .i64 (wrap64 (rd l0 2))) := (kcl BK448.out 0).trans rfl; have hcz62_1 : World.cell? _ ⟨gb448, 1, none⟩ = some (.int .i64 (wrap64 (rd l0 3))) := (kcl BK448.out 1).trans rfl; have hcz62_2 : World.cell? _ ⟨gb448, 2, none⟩ = some (.int .i64 (wrap64 (t443))) := (kcl BK448.out 2).trans rfl; have hcz62_3 : World.cell? _ ⟨gb448, 3, none⟩ = some (.string (strOfNums y444)) := (kcl BK448.out 3).trans rfl; have hcz62_4 : World.cell? _ ⟨gb448, 4, none⟩ = some (.int .i64 (l0.length : Int)) := (kcl BK448.out 4).trans rfl; have hfz62_0 := kfz BK448.out 0; have hfz62_1 := kfz BK448.out 1; have hfz62_2 := kfz BK448.out 2; have hfz62_3 := kfz BK448.out 3; have hfz62_4 := kfz BK448.out 4) | (go_at_call 20; (with_reducible refine (rf_Data.calls kj1 (wrap64 (rd l0 2)) (wrap64 (rd l0 3)) (wrap64 (t443)) (strOfNums y444) (l0.length : Int) t450 _ A26.out).mono ?_); rintro e w63 ⟨v451, rfl, ho0, hb⟩; have n0_ := Azz.mk (Kd.R_lower ho0 (below_size (by repeat (first | (with_reducible first | exact HB.out | apply bal | apply pbN | apply bd1 | refine bst ?_ GE428.out | refine bst ?_ GE448.out) | exact HB.out)))); have n1_ := Azz.mk (blk_below (g := gb428) (o := .cells #[.int .i64 0, .int .i64 0, .int .i64 0, .string (⟨#[]⟩ : ByteArray), .int .i64 0] 36 (0, 0)) (by (with_reducible repeat (first | refine kdN ?_ _ | refine kd1 ?_ | refine kal ?_ _)); exact BK428.out) hb); have n2_ := Azz.mk (blk_below (g := gb448) (o := .cells #[.int .i64 (wrap64 (rd l0 2)), .int .i64 (wrap64 (rd l0 3)), .int .i64 (wrap64 (t443)), .string (strOfNums y444), .int .i64 (l0.length : Int)] 36 (0, 0)) (by (with_reducible repeat (first | refine kdN ?_ _ | refine kd1 ?_ | refine kal ?_ _)); exact BK448.out) hb); have n3_ := Azz.mk (below_step (by repeat (first | (with_reducible first | exact HB.out | apply bal | apply pbN | apply bd1 | refine bst ?_ GE428.out | refine bst ?_ GE448.out) | exact HB.out)) hb); clear BK428; clear BK448; clear HB; have HO452 := n0_; have BK428 := n1_; have BK448 := n2_; have HB := n3_; clear n0_ n1_ n2_ n3_; (try clear hb); (try clear hb2); (try clear hk); (try clear hi); (try clear ho0); obtain ⟨Ao64, co64, eo64⟩ := Kd.R_slice HO452.out; subst eo64) | (go_at_call 37; (with_reducible refine (rf_same.calls _ _ t450 _ _ l0 false _ ?side1 ?side2 ?side3 ?side4 A27.out).mono ?_); (case side1 => repeat (first | exact (Kd.R_reads' HO452.out).2.2 | (with_reducible refine Kd.C_alloc ?_ _) | (with_reducible refine Kd.C_drewN ?_ _) | (with_reducible refine Kd.C_drew ?_))); (case side2 => exact (Kd.R_reads' HO452.out).2.1); (case side3 => repeat (first | exact (Kd.C_below HR0.out HB.out) | (with_reducible refine Kd.C_alloc ?_ _) | (with_reducible refine Kd.C_drewN ?_ _) | (with_reducible refine Kd.C_drew ?_))); (case side4 => exact HC0.out); rintro e w' ⟨rfl, ⟨nd, rfl⟩⟩; (try (rw [drewN_self w63]; generalize hq_ : World.drewN w63 _ = w63; have n0_ : Azz (Kd.R (Kd.int .u8) 5 w63 w.heap.size (fun _ => True) (.slice Ao64 t450.length co64) t450) := ⟨by rw [← hq_]; exact (by (with_reducible repeat (first | apply Kd.R_alloc | apply Kd.R_drewN | apply Kd.R_drew)); exact HO452.out)⟩; have n1_ : Azz (w63.heap[gb428]? = some (.cells #[.int .i64 0, .int .i64 0, .int .i64 0, .string (⟨#[]⟩ : ByteArray), .int .i64 0] 36 (0, 0))) := ⟨by rw [← hq_]; exact (by (with_reducible repeat (first | refine kdN ?_ _ | refine kd1 ?_ | refine kal ?_ _)); exact BK428.out)⟩; have n2_ : Azz (w63.heap[gb448]? = some (.cells #[.int .i64 (wrap64 (rd l0 2)), .int .i64 (wrap64 (rd l0 3)), .int .i64 (wrap64 (t443)), .string (strOfNums y444), .int .i64 (l0.length : Int)] 36 (0, 0))) := ⟨by rw [← hq_]; exact (by (with_reducible repeat (first | refine kdN ?_ _ | refine kd1 ?_ | refine kal ?_ _)); exact BK448.out)⟩; have n3_ : Azz (Below w.heap.size w w63) := ⟨by rw [← hq_]; exact (by repeat (first | (with_reducible first | exact HB.out | apply bal | apply pbN | apply bd1 | refine bst ?_ GE428.out | refine bst ?_ GE448.out) | exact HB.out))⟩; clear HO452 BK428 BK448 HB hq_; have HO452 := n0_; have BK428 := n1_; have BK448 := n2_; have HB := n3_; clear n0_ n1_ n2_ n3_)); have hcz65_0 : World.cell? _ ⟨gb428, 0, none⟩ = some (.int .i64 0) := (kcl BK428.out 0).trans rfl; have hcz65_1 : World.cell? _ ⟨gb428, 1, none⟩ = some (.int .i64 0) := (kcl BK428.out 1).trans rfl; have hcz65_2 : World.cell? _ ⟨gb428, 2, none⟩ = some (.int .i64 0) := (kcl BK428.out 2).trans rfl; have hcz65_3 : World.cell? _ ⟨gb428, 3, none⟩ = some (.string (⟨#[]⟩ : ByteArray)) := (kcl BK428.out 3).trans rfl; have hcz65_4 : World.cell? _ ⟨gb428, 4, none⟩ = some (.int .i64 0) := (kcl BK428.out 4).trans rfl; have hfz65_0 := kfz BK428.out 0; have hfz65_1 := kfz BK428.out 1; have hfz65_2 := kfz BK428.out 2; have hfz65_3 := kfz BK428.out 3; have hfz65_4 := kfz BK428.out 4))
              refine bodyPost_ret (results_ct rfl _ _ gb428 36 #[.int .i64 0, .int .i64 0, .int .i64 0, .string (⟨#[]⟩ : ByteArray), .int .i64 0] (0, 0) _ rfl (by (with_reducible repeat (first | refine kdN ?_ _ | refine kd1 ?_ | refine kal ?_ _)); refine blk_put (cs := #[.int .i64 0, .int .i64 0, .int .i64 0, .string (⟨#[]⟩ : ByteArray), .int .i64 0]) ?_ 4 _ rfl; (with_reducible repeat (first | refine kdN ?_ _ | refine kd1 ?_ | refine kal ?_ _)); refine blk_put (cs := #[.int .i64 0, .int .i64 0, .int .i64 0, .string (⟨#[]⟩ : ByteArray), .int .i64 0]) ?_ 3 _ rfl; (with_reducible repeat (first | refine kdN ?_ _ | refine kd1 ?_ | refine kal ?_ _)); refine blk_put (cs := #[.int .i64 0, .int .i64 0, .int .i64 0, .string (⟨#[]⟩ : ByteArray), .int .i64 0]) ?_ 2 _ rfl; (with_reducible repeat (first | refine kdN ?_ _ | refine kd1 ?_ | refine kal ?_ _)); refine blk_put (cs := #[.int .i64 0, .int .i64 0, .int .i64 0, .string (⟨#[]⟩ : ByteArray), .int .i64 0]) ?_ 1 _ rfl; (with_reducible repeat (first | refine kdN ?_ _ | refine kd1 ?_ | refine kal ?_ _)); refine blk_put (cs := #[.int .i64 0, .int .i64 0, .int .i64 0, .string (⟨#[]⟩ : ByteArray), .int .i64 0]) ?_ 0 _ rfl; (with_reducible repeat (first | refine kdN ?_ _ | refine kd1 ?_ | refine kal ?_ _)); exact BK428.out) Try.underlying36 rfl (by kernel_rfl)) rfl ?_
              exact ⟨by first | rfl | (simp [errW_none, errW_some] <;> rfl) | (simp [*, errW_none, errW_some] <;> rfl), by repeat (first | (with_reducible first | exact HB.out | apply bal | apply pbN | apply bd1 | refine bst ?_ GE428.out | refine bst ?_ GE448.out) | exact HB.out)⟩
            ·replace c25 := Bool.eq_false_iff.mpr c25
             subst c25
             have H1 : (some (0, 0, 0, (⟨#[]⟩ : ByteArray), 0, 2)) = some (r1, r2, r3, r4, r5, r6) := by rw [if_neg (show ¬ (false = true) by decide)] at H; exact H
             clear H
             have H := H1
             clear H1
             simp only [Option.some.injEq, Prod.mk.injEq] at H
             obtain ⟨rfl, rfl, rfl, rfl, rfl, rfl⟩ := H
             try go_wp2_with (first | ((with_reducible refine gate_callee (f := 35) rfl ?_); refine goesL_ (some 28) rfl rfl Try.func35 (by kernel_rfl) rfl #[.slice A0 l0.length c0] rfl (by (try simp only [List.map_toArray, List.map_cons, List.map_nil]); first | done | rfl | (simp only [List.length_drop, List.length_take]; rfl)) ?_; (with_reducible refine (rf_sum.calls kj1 _ _ l0 true _ ?side1 ?side2 A11.out).mono ?_); (case side1 => repeat (first | exact (Kd.C_below HR0.out HB.out) | (with_reducible refine Kd.C_alloc ?_ _) | (with_reducible refine Kd.C_drewN ?_ _) | (with_reducible refine Kd.C_drew ?_))); (case side2 => exact HC0.out); rintro e w' ⟨rfl, ⟨nd, rfl⟩⟩; refine ⟨_, rfl, ?_⟩; (try (rw [drewN_self wc]; generalize hq_ : World.drewN wc _ = wc; have n0_ : Azz (wc.heap[gb428]? = some (.cells #[.int .i64 0, .int .i64 0, .int .i64 0, .string (⟨#[]⟩ : ByteArray), .int .i64 0] 36 (0, 0))) := ⟨by rw [← hq_]; exact (by (with_reducible repeat (first | refine kdN ?_ _ | refine kd1 ?_ | refine kal ?_ _)); exact BK428.out)⟩; have n1_ : Azz (Below w.heap.size w wc) := ⟨by rw [← hq_]; exact (by repeat (first | (with_reducible first | exact HB.out | apply bal | apply pbN | apply bd1 | refine bst ?_ GE428.out) | exact HB.out))⟩; clear BK428 HB hq_; have BK428 := n0_; have HB := n1_; clear n0_ n1_)); have q66 : (10 : Int) ≤ ((l0.length : Int) : Int) := of_decide_eq_true (by first | (with_reducible assumption) | assumption); obtain ⟨i066, hi066, _, hsz66, _⟩ := info_parts info5; have hroom66 : l0.length ≤ c0 := HC0.out; have hC66 : Kd.C (Kd.int .u8) _ A0 l0.length l0 := HR0.out; have ql66 : (8 : Int) ≤ (10 : Int) := (by omega); have hcut66 := cut_mid (P := Try.prog) 26 5 .i64 .i64 Try.underlying26 hi066 1 hsz66 A0 l0.length c0 8 10 (by omega) ql66 q66 hroom66; have hr66 := Kd.C_mid (lo := (8 : Int).toNat) (hi := (10 : Int).toNat) (c := c0) hC66 (by omega) (by omega) hroom66; obtain ⟨A66, hA66⟩ : ∃ A1, A1 = (if c0 = (8 : Int).toNat then A0 else (A0 : Option Addr).map (·.add ((8 : Int).toNat * 1))) := ⟨_, rfl⟩; obtain ⟨c66, hc66⟩ : ∃ c1, c1 = c0 - (8 : Int).toNat := ⟨_, rfl⟩; have hy66 : y432.length = (10 : Int).toNat - (8 : Int).toNat := (by rw [Ny432.out, List.length_drop, List.length_take] <;> omega); rw [show ((l0).take (10 : Int).toNat).drop (8 : Int).toNat = y432 from Ny432.out.symm] at hr66; replace hr66 : Kd.C (Kd.int .u8) _ A66 y432.length y432 := (by rw [hA66]; exact hr66); rw [← hy66, ← hA66, ← hc66] at hcut66; have HR435 := Azz.mk hr66; have HC435 := Azz.mk (show y432.length ≤ c66 from by rw [hy66, hc66]; exact Nat.sub_le_sub_right (Nat.le_trans (by omega) hroom66) _); clear hr66 hC66 hroom66 hi066 hsz66 hc66; have KY66 := Azz.mk hy66; have KA66 := Azz.mk hA66; clear hy66 hA66; replace q66 := eq_true q66) | ((with_reducible refine gate_callee (f := 36) rfl ?_); refine goesL_ (some 33) rfl rfl Try.func36 (by kernel_rfl) rfl #[.slice A66 y432.length c66] rfl (by (try simp only [List.map_toArray, List.map_cons, List.map_nil]); first | done | rfl | (simp only [List.length_drop, List.length_take]; rfl)) ?_; (with_reducible refine (rf_value.calls kj1 _ _ y432 t436 _ ?side1 ?side2 A14.out).mono ?_); (case side1 => repeat (first | exact (Kd.C_below HR435.out HB.out) | (with_reducible refine Kd.C_alloc ?_ _) | (with_reducible refine Kd.C_drewN ?_ _) | (with_reducible refine Kd.C_drew ?_))); (case side2 => exact HC435.out); rintro e w' ⟨rfl, ⟨nd, rfl⟩⟩; refine ⟨_, rfl, ?_⟩; (try (rw [drewN_self wc]; generalize hq_ : World.drewN wc _ = wc; have n0_ : Azz (wc.heap[gb428]? = some (.cells #[.int .i64 0, .int .i64 0, .int .i64 0, .string (⟨#[]⟩ : ByteArray), .int .i64 0] 36 (0, 0))) := ⟨by rw [← hq_]; exact (by (with_reducible repeat (first | refine kdN ?_ _ | refine kd1 ?_ | refine kal ?_ _)); exact BK428.out)⟩; have n1_ : Azz (Below w.heap.size w wc) := ⟨by rw [← hq_]; exact (by repeat (first | (with_reducible first | exact HB.out | apply bal | apply pbN | apply bd1 | refine bst ?_ GE428.out) | exact HB.out))⟩; clear BK428 HB hq_; have BK428 := n0_; have HB := n1_; clear n0_ n1_))))
             have n0_ := Azz.mk (kd1 BK428.out)
             have n1_ := Azz.mk (bd1 HB.out)
             clear BK428
             clear HB
             have BK428 := n0_
             have HB := n1_
             clear n0_ n1_
             have p437 : 0 ≤ (2 : Int) := (by omega)
             have q437 : 2 < (l0.length : Int) := of_decide_eq_true (by first | (with_reducible assumption) | assumption)
             obtain ⟨ad437, e437, hx437_0⟩ := Kd.at_int HR0.out 2 p437 q437
             have hw437_0 := hx437_0
             (try rw [show ((2 : Int)).toNat = 2 from rfl] at hw437_0)
             (try rw [show 2 * 1 = 2 from rfl] at hw437_0)
             (try simp only [Nat.reduceMul, Nat.reduceEqDiff, Go.Addr.add, ↓reduceIte] at hw437_0)
             cases e437
             (try simp only [show (2 : Int).toNat = 2 from rfl, Nat.reduceMul, Nat.reduceEqDiff, Go.Addr.add, ↓reduceIte] at hx437_0)
             have qi437 : (2 < l0.length) = True := eq_true (by omega)
             (try rw [show ((2 : Int)).toNat = 2 from rfl] at hx437_0)
             replace hx437_0 := (HB.out.cell (World.block_lt_of_cell? w _ hx437_0)).trans hx437_0
             replace p437 := eq_true p437
             replace q437 := eq_true q437
             have p438 : 0 ≤ (3 : Int) := (by omega)
             have q438 : 3 < (l0.length : Int) := of_decide_eq_true (by first | (with_reducible assumption) | assumption)
             obtain ⟨ad438, e438, hx438_0⟩ := Kd.at_int HR0.out 3 p438 q438
             have hw438_0 := hx438_0
             (try rw [show ((3 : Int)).toNat = 3 from rfl] at hw438_0)
             (try rw [show 3 * 1 = 3 from rfl] at hw438_0)
             (try simp only [Nat.reduceMul, Nat.reduceEqDiff, Go.Addr.add, ↓reduceIte] at hw438_0)
             obtain rfl : ad437 = ad438 := (by injection e438)
             (try simp only [show (3 : Int).toNat = 3 from rfl, Nat.reduceMul, Nat.reduceEqDiff, Go.Addr.add, ↓reduceIte] at hx438_0)
             have qi438 : (3 < l0.length) = True := eq_true (by omega)
             (try rw [show ((3 : Int)).toNat = 3 from rfl] at hx438_0)
             replace hx438_0 := (HB.out.cell (World.block_lt_of_cell? w _ hx438_0)).trans hx438_0
             replace p438 := eq_true p438
             replace q438 := eq_true q438
             have q68 : (8 : Int) ≤ ((l0.length : Int) : Int) := of_decide_eq_true (by first | (with_reducible assumption) | assumption)
             obtain ⟨i068, hi068, _, hsz68, _⟩ := info_parts info5
             have hroom68 : l0.length ≤ c0 := HC0.out
             have hC68 : Kd.C (Kd.int .u8) _ (some ad437) l0.length l0 := HR0.out
             have ql68 : (4 : Int) ≤ (8 : Int) := (by omega)
             have hcut68 := cut_mid (P := Try.prog) 26 5 .i64 .i64 Try.underlying26 hi068 1 hsz68 (some ad437) l0.length c0 4 8 (by omega) ql68 q68 hroom68
             have hr68 := Kd.C_mid (lo := (4 : Int).toNat) (hi := (8 : Int).toNat) (c := c0) hC68 (by omega) (by omega) hroom68
             obtain ⟨A68, hA68⟩ : ∃ A1, A1 = (if c0 = (4 : Int).toNat then (some ad437) else ((some ad437) : Option Addr).map (·.add ((4 : Int).toNat * 1))) := ⟨_, rfl⟩
             obtain ⟨c68, hc68⟩ : ∃ c1, c1 = c0 - (4 : Int).toNat := ⟨_, rfl⟩
             have hy68 : y439.length = (8 : Int).toNat - (4 : Int).toNat := (by rw [Ny439.out, List.length_drop, List.length_take] <;> omega)
             rw [show ((l0).take (8 : Int).toNat).drop (4 : Int).toNat = y439 from Ny439.out.symm] at hr68
             replace hr68 : Kd.C (Kd.int .u8) _ A68 y439.length y439 := (by rw [hA68]; exact hr68)
             rw [← hy68, ← hA68, ← hc68] at hcut68
             have HR442 := Azz.mk hr68
             have HC442 := Azz.mk (show y439.length ≤ c68 from by rw [hy68, hc68]; exact Nat.sub_le_sub_right (Nat.le_trans (by omega) hroom68) _)
             clear hr68 hC68 hroom68 hi068 hsz68 hc68
             have KY68 := Azz.mk hy68
             have KA68 := Azz.mk hA68
             clear hy68 hA68
             replace q68 := eq_true q68
             have q69 : ((wrap64 (10 + (wrap64 (t436)))) : Int) ≤ ((l0.length : Int) : Int) := of_decide_eq_true (by first | (with_reducible assumption) | assumption)
             obtain ⟨i069, hi069, _, hsz69, _⟩ := info_parts info5
             have hroom69 : l0.length ≤ c0 := HC0.out
             have hC69 : Kd.C (Kd.int .u8) _ (some ad437) l0.length l0 := HR0.out
             have ql69 : (10 : Int) ≤ ((wrap64 (10 + (wrap64 (t436)))) : Int) := of_decide_eq_true (by first | (with_reducible assumption) | assumption)
             have hcut69 := cut_mid (P := Try.prog) 26 5 .i64 .i64 Try.underlying26 hi069 1 hsz69 (some ad437) l0.length c0 10 (wrap64 (10 + (wrap64 (t436)))) (by omega) ql69 q69 hroom69
             have hr69 := Kd.C_mid (lo := (10 : Int).toNat) (hi := ((wrap64 (10 + (wrap64 (t436)))) : Int).toNat) (c := c0) hC69 (by omega) (by omega) hroom69
             obtain ⟨A69, hA69⟩ : ∃ A1, A1 = (if c0 = (10 : Int).toNat then (some ad437) else ((some ad437) : Option Addr).map (·.add ((10 : Int).toNat * 1))) := ⟨_, rfl⟩
             obtain ⟨c69, hc69⟩ : ∃ c1, c1 = c0 - (10 : Int).toNat := ⟨_, rfl⟩
             have hy69 : y444.length = ((wrap64 (10 + (wrap64 (t436)))) : Int).toNat - (10 : Int).toNat := (by rw [Ny444.out, List.length_drop, List.length_take] <;> omega)
             rw [show ((l0).take ((wrap64 (10 + (wrap64 (t436)))) : Int).toNat).drop (10 : Int).toNat = y444 from Ny444.out.symm] at hr69
             replace hr69 : Kd.C (Kd.int .u8) _ A69 y444.length y444 := (by rw [hA69]; exact hr69)
             rw [← hy69, ← hA69, ← hc69] at hcut69
             have HR447 := Azz.mk hr69
             have HC447 := Azz.mk (show y444.length ≤ c69 from by rw [hy69, hc69]; exact Nat.sub_le_sub_right (Nat.le_trans (by omega) hroom69) _)
             clear hr69 hC69 hroom69 hi069 hsz69 hc69
             have KY69 := Azz.mk hy69
             have KA69 := Azz.mk hA69
             clear hy69 hA69
             replace q69 := eq_true q69
             refine start_ (n := 22) (S := fun w' => w'.cell? ⟨ad437.block, ad437.off + 2, none⟩ = some (.int .u8 (rd l0 2)) ∧ w'.cell? ⟨ad437.block, ad437.off + 3, none⟩ = some (.int .u8 (rd l0 3)) ∧ Sem.run Try.prog (convert 26 9 (.slice A69 y444.length c69)) w' = .ok (.string (strOfNums y444)) w') (ds := []) #[false, false, false, false, false, false, false, false, false, false, false, false, false, false, false, false, false, false, false, false, false, false] (by kernel_rfl) rfl rfl ⟨((HB.out.cell (World.block_lt_of_cell? w _ hw437_0)).trans hw437_0), ((HB.out.cell (World.block_lt_of_cell? w _ hw438_0)).trans hw438_0), (Kd.C_string (P := Try.prog) (A := A69) (c := c69) Try.underlying26 Try.underlying5 Try.underlying9 (Kd.C_below HR447.out (by repeat (first | (with_reducible first | exact HB.out | apply bal | apply pbN | apply bd1 | refine bst ?_ GE428.out) | exact HB.out))))⟩ (fun hHeld => ?_); refine with_tabW rf_ReadData.tab8 rf_ReadData.bits8 (fun HT_ HW_ => ?_)
             generalize wc.drew = w67 at BK428 HB HR442 HR447 hx437_0 hx438_0 hHeld ⊢
             refine pure_ (i := 0) (N := some 41) (v := ?_) (a' := ?_) #[true, false, false, false, false, false, false, false, false, false, false, false, false, false, false, false, false, false, false, false, false, false] rfl rfl (any_of HT_.out (by kernel_rfl)) (fun _ _ _ h => h) (Or.inl ⟨by rfl, ?_⟩) ?_ ?_
             rotate_left
             ·intro w'
              go_simp
              with_reducible rfl
             rotate_left
             ·simp only [Act.put, List.setIfInBounds_toArray, List.set_cons_zero, List.set_cons_succ, i64_w, i32_w]
              rfl
             refine pure_ (i := 1) (N := some 42) (v := ?_) (a' := ?_) #[true, true, false, false, false, false, false, false, false, false, false, false, false, false, false, false, false, false, false, false, false, false] rfl rfl (any_of HT_.out (by kernel_rfl)) (fun _ _ _ h => h) (Or.inl ⟨by rfl, ?_⟩) ?_ ?_
             rotate_left
             ·intro w'
              go_simp
              with_reducible rfl
             rotate_left
             ·simp only [Act.put, List.setIfInBounds_toArray, List.set_cons_zero, List.set_cons_succ, i64_w, i32_w]
              rfl
             refine pure_ (i := 4) (N := some 45) (v := ?_) (a' := ?_) #[true, true, false, false, true, false, false, false, false, false, false, false, false, false, false, false, false, false, false, false, false, false] rfl rfl (any_of HT_.out (by kernel_rfl)) (fun _ _ _ h => h) (Or.inl ⟨by rfl, ?_⟩) ?_ ?_
             rotate_left
             ·intro w'
              go_simp
              with_reducible rfl
             rotate_left
             ·simp only [Act.put, List.setIfInBounds_toArray, List.set_cons_zero, List.set_cons_succ, i64_w, i32_w]
              rfl
             refine pure_ (i := 5) (N := some 46) (v := ?_) (a' := ?_) #[true, true, false, false, true, true, false, false, false, false, false, false, false, false, false, false, false, false, false, false, false, false] rfl rfl (any_of HT_.out (by kernel_rfl)) (fun _ _ _ h => h) (Or.inl ⟨by rfl, ?_⟩) ?_ ?_
             rotate_left
             ·intro w'
              go_simp
              with_reducible rfl
             rotate_left
             ·simp only [Act.put, List.setIfInBounds_toArray, List.set_cons_zero, List.set_cons_succ, i64_w, i32_w]
              rfl
             refine pure_ (i := 8) (N := some 49) (v := ?_) (a' := ?_) #[true, true, false, false, true, true, false, false, true, false, false, false, false, false, false, false, false, false, false, false, false, false] rfl rfl (any_of HT_.out (by kernel_rfl)) (fun _ _ _ h => h) (Or.inl ⟨by rfl, ?_⟩) ?_ ?_
             rotate_left
             ·intro w'
              go_simp
              with_reducible rfl
             rotate_left
             ·simp only [Act.put, List.setIfInBounds_toArray, List.set_cons_zero, List.set_cons_succ, i64_w, i32_w]
              rfl
             refine pure_ (i := 9) (N := some 50) (v := ?_) (a' := ?_) #[true, true, false, false, true, true, false, false, true, true, false, false, false, false, false, false, false, false, false, false, false, false] rfl rfl (any_of HT_.out (by kernel_rfl)) (fun _ _ _ h => h) (Or.inl ⟨by rfl, ?_⟩) ?_ ?_
             rotate_left
             ·intro w'
              go_simp
              with_reducible rfl
             rotate_left
             ·simp only [Act.put, List.setIfInBounds_toArray, List.set_cons_zero, List.set_cons_succ, i64_w, i32_w]
              rfl
             refine pure_ (i := 12) (N := some 53) (v := ?_) (a' := ?_) #[true, true, false, false, true, true, false, false, true, true, false, false, true, false, false, false, false, false, false, false, false, false] rfl rfl (any_of HT_.out (by kernel_rfl)) (fun _ _ _ h => h) (Or.inl ⟨by rfl, ?_⟩) ?_ ?_
             rotate_left
             ·intro w'
              go_simp
              with_reducible rfl
             rotate_left
             ·simp only [Act.put, List.setIfInBounds_toArray, List.set_cons_zero, List.set_cons_succ, i64_w, i32_w]
              rfl
             refine pure_ (i := 13) (N := some 54) (v := ?_) (a' := ?_) #[true, true, false, false, true, true, false, false, true, true, false, false, true, true, false, false, false, false, false, false, false, false] rfl rfl (any_of HT_.out (by kernel_rfl)) (fun _ _ _ h => h) (Or.inl ⟨by rfl, ?_⟩) ?_ ?_
             rotate_left
             ·intro w'
              go_simp
              with_reducible rfl
             rotate_left
             ·simp only [Act.put, List.setIfInBounds_toArray, List.set_cons_zero, List.set_cons_succ, i64_w, i32_w]
              rfl
             refine pure_ (i := 14) (N := some 55) (v := ?_) (a' := ?_) #[true, true, false, false, true, true, false, false, true, true, false, false, true, true, true, false, false, false, false, false, false, false] rfl rfl (any_of HT_.out (by kernel_rfl)) (fun _ _ _ h => h) (Or.inl ⟨by rfl, ?_⟩) ?_ ?_
             rotate_left
             ·intro w'
              go_simp
              with_reducible rfl
             rotate_left
             ·simp only [Act.put, List.setIfInBounds_toArray, List.set_cons_zero, List.set_cons_succ, i64_w, i32_w]
              rfl
             refine pure_ (i := 15) (N := some 56) (v := ?_) (a' := ?_) #[true, true, false, false, true, true, false, false, true, true, false, false, true, true, true, true, false, false, false, false, false, false] rfl rfl (any_of HT_.out (by kernel_rfl)) (fun _ _ _ h => h) (Or.inl ⟨by rfl, ?_⟩) ?_ ?_
             rotate_left
             ·intro w'
              go_simp
              with_reducible rfl
             rotate_left
             ·simp only [Act.put, List.setIfInBounds_toArray, List.set_cons_zero, List.set_cons_succ, i64_w, i32_w]
              rfl
             refine pure_ (i := 17) (N := some 58) (v := ?_) (a' := ?_) #[true, true, false, false, true, true, false, false, true, true, false, false, true, true, true, true, false, true, false, false, false, false] rfl rfl (any_of HT_.out (by kernel_rfl)) (fun _ _ _ h => h) (Or.inl ⟨by rfl, ?_⟩) ?_ ?_
             rotate_left
             ·intro w'
              go_simp
              with_reducible rfl
             rotate_left
             ·simp only [Act.put, List.setIfInBounds_toArray, List.set_cons_zero, List.set_cons_succ, i64_w, i32_w]
              rfl
             refine pure_ (i := 18) (N := some 59) (v := ?_) (a' := ?_) #[true, true, false, false, true, true, false, false, true, true, false, false, true, true, true, true, false, true, true, false, false, false] rfl rfl (any_of HT_.out (by kernel_rfl)) (fun _ _ _ h => h) (Or.inl ⟨by rfl, ?_⟩) ?_ ?_
             rotate_left
             ·intro w'
              go_simp
              with_reducible rfl
             rotate_left
             ·simp only [Act.put, List.setIfInBounds_toArray, List.set_cons_zero, List.set_cons_succ, i64_w, i32_w]
              rfl
             refine take_ (i := 2) (N := some 43) (v := ?_) (a' := ?_) #[true, true, true, false, true, true, false, false, true, true, false, false, true, true, true, true, false, true, true, false, false, false] rfl rfl (take_ofW HT_.out HW_.out (by kernel_rfl)) (fun _ _ _ h => h) (Or.inl ⟨by rfl, ?_⟩) hHeld ?_ ?_
             rotate_left
             ·rintro w' ⟨s0, s1, s2⟩
              go_simp
              with_reducible rfl
             rotate_left
             ·simp only [Act.put, List.setIfInBounds_toArray, List.set_cons_zero, List.set_cons_succ, i64_w, i32_w]
              rfl
             refine pure_ (i := 3) (N := some 44) (v := ?_) (a' := ?_) #[true, true, true, true, true, true, false, false, true, true, false, false, true, true, true, true, false, true, true, false, false, false] rfl rfl (any_of HT_.out (by kernel_rfl)) (fun _ _ _ h => h) (Or.inl ⟨by rfl, ?_⟩) ?_ ?_
             rotate_left
             ·intro w'
              go_simp
              with_reducible rfl
             rotate_left
             ·simp only [Act.put, List.setIfInBounds_toArray, List.set_cons_zero, List.set_cons_succ, i64_w, i32_w]
              rfl
             refine take_ (i := 6) (N := some 47) (v := ?_) (a' := ?_) #[true, true, true, true, true, true, true, false, true, true, false, false, true, true, true, true, false, true, true, false, false, false] rfl rfl (take_ofW HT_.out HW_.out (by kernel_rfl)) (fun _ _ _ h => h) (Or.inl ⟨by rfl, ?_⟩) hHeld ?_ ?_
             rotate_left
             ·rintro w' ⟨s0, s1, s2⟩
              go_simp
              with_reducible rfl
             rotate_left
             ·simp only [Act.put, List.setIfInBounds_toArray, List.set_cons_zero, List.set_cons_succ, i64_w, i32_w]
              rfl
             refine pure_ (i := 7) (N := some 48) (v := ?_) (a' := ?_) #[true, true, true, true, true, true, true, true, true, true, false, false, true, true, true, true, false, true, true, false, false, false] rfl rfl (any_of HT_.out (by kernel_rfl)) (fun _ _ _ h => h) (Or.inl ⟨by rfl, ?_⟩) ?_ ?_
             rotate_left
             ·intro w'
              go_simp
              with_reducible rfl
             rotate_left
             ·simp only [Act.put, List.setIfInBounds_toArray, List.set_cons_zero, List.set_cons_succ, i64_w, i32_w]
              rfl
             refine take_ (i := 16) (N := some 57) (v := ?_) (a' := ?_) #[true, true, true, true, true, true, true, true, true, true, false, false, true, true, true, true, true, true, true, false, false, false] rfl rfl (take_ofW HT_.out HW_.out (by kernel_rfl)) (fun _ _ _ h => h) (Or.inl ⟨by rfl, ?_⟩) hHeld ?_ ?_
             rotate_left
             ·rintro w' ⟨s0, s1, s2⟩
              go_simp
              with_reducible rfl
             rotate_left
             ·simp only [Act.put, List.setIfInBounds_toArray, List.set_cons_zero, List.set_cons_succ, i64_w, i32_w]
              rfl
             refine join_ (σ := Nat) 1 #[true, true, true, true, true, true, true, true, true, true, true, true, true, true, true, true, true, true, true, true, true, false] (fun s_ => [(51, .int .u64 t443), (5, .pointer (some ⟨s_, 0, none⟩)), (52, .int .i64 (wrap64 (t443))), (60, .agg #[.int .i64 (wrap64 (rd l0 2)), .int .i64 (wrap64 (rd l0 3)), .int .i64 (wrap64 (t443)), .string (strOfNums y444), .int .i64 (l0.length : Int)])]) (fun s_ w' => (w'.cell? ⟨ad437.block, ad437.off + 2, none⟩ = some (.int .u8 (rd l0 2)) ∧ w'.cell? ⟨ad437.block, ad437.off + 3, none⟩ = some (.int .u8 (rd l0 3)) ∧ Sem.run Try.prog (convert 26 9 (.slice A69 y444.length c69)) w' = .ok (.string (strOfNums y444)) w') ∧ (w'.heap[gb428]? = some (.cells #[.int .i64 0, .int .i64 0, .int .i64 0, .string (⟨#[]⟩ : ByteArray), .int .i64 0] 36 (0, 0))) ∧ (w'.heap[s_]? = some (.cells #[.int .i64 0, .int .i64 0, .int .i64 0, .string (⟨#[]⟩ : ByteArray), .int .i64 0] 36 (0, 0))) ∧ (w.heap.size ≤ s_) ∧ (w.heap.size ≤ s_) ∧ (gb428 ≠ s_) ∧ (s_ ≠ gb428) ∧ (Below w.heap.size w w')) ?_ ?_
             rotate_left
             ·intro hCont
              refine two_ (i := 10) (j := 20) (Ni := some 51) (Nj := some 5) #[true, true, true, true, true, true, true, true, true, true, true, false, true, true, true, true, true, true, true, false, false, false] #[true, true, true, true, true, true, true, true, true, true, false, false, true, true, true, true, true, true, true, false, true, false] rfl rfl rfl rfl (two_of HT_.out (by kernel_rfl)) (by decide) (by decide) (fun K hK => ?_) (fun K hK => ?_)
              ·skip
               refine goes_ Try.func36 (by kernel_rfl) rfl #[.slice A68 y439.length c68] (by rfl) rfl rfl (by (try simp only [List.map_toArray, List.map_cons, List.map_nil]); first | done | rfl | (simp only [List.length_drop, List.length_take]; rfl)) ?_
               with_reducible refine (rf_value.calls kj1 _ _ y439 t443 _ ?side1 ?side2 A21.out).mono ?_
               (case side1 => repeat (first | exact (Kd.C_below HR442.out HB.out) | (with_reducible refine Kd.C_alloc ?_ _) | (with_reducible refine Kd.C_drewN ?_ _) | (with_reducible refine Kd.C_drew ?_)))
               (case side2 => exact HC442.out)
               rintro e w' ⟨rfl, ⟨nd, rfl⟩⟩
               refine ⟨_, rfl, ?_⟩
               refine hK.out _ _ ⟨((HB.out.cell (World.block_lt_of_cell? w _ hw437_0)).trans hw437_0), ((HB.out.cell (World.block_lt_of_cell? w _ hw438_0)).trans hw438_0), (Kd.C_string (P := Try.prog) (A := A69) (c := c69) Try.underlying26 Try.underlying5 Try.underlying9 (Kd.C_below HR447.out (by repeat (first | (with_reducible first | exact HB.out | apply bal | apply pbN | apply bd1 | refine bst ?_ GE428.out) | exact HB.out))))⟩ (fun hHeld => ?_)
               clear hK K
               refine norm_ (a' := ?_) ?_ ?_
               rotate_left
               ·show Act.put _ (some 51) _ = _
                simp only [Act.put, List.setIfInBounds_toArray, List.set_cons_zero, List.set_cons_succ, i64_w, i32_w]
                rfl
               refine pure_ (i := 11) (N := some 52) (v := ?_) (a' := ?_) #[true, true, true, true, true, true, true, true, true, true, true, true, true, true, true, true, true, true, true, false, false, false] rfl rfl (any_of HT_.out (by kernel_rfl)) (fun _ _ _ h => h) (Or.inl ⟨by rfl, ?_⟩) ?_ ?_
               rotate_left
               ·intro w'
                go_simp
                with_reducible rfl
               rotate_left
               ·simp only [Act.put, List.setIfInBounds_toArray, List.set_cons_zero, List.set_cons_succ, i64_w, i32_w]
                rfl
               refine pure_ (i := 19) (N := some 60) (v := ?_) (a' := ?_) #[true, true, true, true, true, true, true, true, true, true, true, true, true, true, true, true, true, true, true, true, false, false] rfl rfl (any_of HT_.out (by kernel_rfl)) (fun _ _ _ h => h) (Or.inl ⟨by rfl, ?_⟩) ?_ ?_
               rotate_left
               ·intro w'
                go_simp
                with_reducible rfl
               rotate_left
               ·simp only [Act.put, List.setIfInBounds_toArray, List.set_cons_zero, List.set_cons_succ, i64_w, i32_w]
                rfl
               refine one_ (i := 20) (N := some 5) #[true, true, true, true, true, true, true, true, true, true, true, true, true, true, true, true, true, true, true, true, true, false] rfl rfl (one_of HT_.out (by kernel_rfl)) (by decide) (fun K hK => ?_)
               refine box_step ?hg (N := 5) ?hd (cs := #[.int .i64 0, .int .i64 0, .int .i64 0, .string (⟨#[]⟩ : ByteArray), .int .i64 0]) (t := 36) ?hr ?_; (case hd => rfl); (case hg => rfl); (case hr => first | (go_simp; done) | (go_simp; rfl))
               intro gb448 hg w70 hbox hb
               have n0_ := Azz.mk (blk_below (g := gb428) (o := .cells #[.int .i64 0, .int .i64 0, .int .i64 0, .string (⟨#[]⟩ : ByteArray), .int .i64 0] 36 (0, 0)) (by (with_reducible repeat (first | refine kdN ?_ _ | refine kd1 ?_ | refine kal ?_ _)); exact BK428.out) hb)
               have n1_ := Azz.mk (below_step (by repeat (first | (with_reducible first | exact HB.out | apply bal | apply pbN | apply bd1 | refine bst ?_ GE428.out) | exact HB.out)) hb)
               have n2_ := Azz.mk (hbox)
               have n3_ := Azz.mk ((by rw [hg]; exact (below_size (by repeat (first | (with_reducible first | exact HB.out | apply bal | apply pbN | apply bd1 | refine bst ?_ GE428.out) | exact HB.out))) : w.heap.size ≤ gb448))
               have n4_ := Azz.mk ((by rw [hg]; exact (below_size (by repeat (first | (with_reducible first | exact HB.out | apply bal | apply pbN | apply bd1 | refine bst ?_ GE428.out) | exact HB.out))) : w.heap.size ≤ gb448))
               have n5_ := Azz.mk ((by rw [hg]; exact Nat.ne_of_lt (blk_lt (g := gb428) (o := .cells #[.int .i64 0, .int .i64 0, .int .i64 0, .string (⟨#[]⟩ : ByteArray), .int .i64 0] 36 (0, 0)) (by (with_reducible repeat (first | refine kdN ?_ _ | refine kd1 ?_ | refine kal ?_ _)); exact BK428.out)) : gb428 ≠ gb448))
               have n6_ := Azz.mk ((by rw [hg]; exact Nat.ne_of_gt (blk_lt (g := gb428) (o := .cells #[.int .i64 0, .int .i64 0, .int .i64 0, .string (⟨#[]⟩ : ByteArray), .int .i64 0] 36 (0, 0)) (by (with_reducible repeat (first | refine kdN ?_ _ | refine kd1 ?_ | refine kal ?_ _)); exact BK428.out)) : gb448 ≠ gb428))
               clear BK428
               clear HB
               have BK428 := n0_
               have HB := n1_
               have BK448 := n2_
               have GW448 := n3_
               have GE448 := n4_
               have NB428_448 := n5_
               have NB448_428 := n6_
               clear n0_ n1_ n2_ n3_ n4_ n5_ n6_
               clear hb hbox hg
               refine hK.out _ _ ⟨((HB.out.cell (World.block_lt_of_cell? w _ hw437_0)).trans hw437_0), ((HB.out.cell (World.block_lt_of_cell? w _ hw438_0)).trans hw438_0), (Kd.C_string (P := Try.prog) (A := A69) (c := c69) Try.underlying26 Try.underlying5 Try.underlying9 (Kd.C_below HR447.out (by repeat (first | (with_reducible first | exact HB.out | apply bal | apply pbN | apply bd1 | refine bst ?_ GE428.out) | exact HB.out))))⟩ (fun hHeld => ?_)
               clear hK K
               refine norm_ (a' := ?_) ?_ ?_
               rotate_left
               ·show Act.put _ (some 5) _ = _
                simp only [Act.put, List.setIfInBounds_toArray, List.set_cons_zero, List.set_cons_succ, i64_w, i32_w]
                rfl
               exact norm_ (by first | (simp only [putAll, Act.put, List.setIfInBounds_toArray, List.set_cons_zero, List.set_cons_succ]; done) | (simp only [putAll, Act.put, List.setIfInBounds_toArray, List.set_cons_zero, List.set_cons_succ, IntKind.wrap_u32, IntKind.wrap_u8]; done)) (hCont (gb448) _ ⟨hHeld, (by (with_reducible repeat (first | refine kdN ?_ _ | refine kd1 ?_ | refine kal ?_ _)); exact BK428.out), (by (with_reducible repeat (first | refine kdN ?_ _ | refine kd1 ?_ | refine kal ?_ _)); exact BK448.out), GW448.out, GE448.out, NB428_448.out, NB448_428.out, (by repeat (first | (with_reducible first | exact HB.out | apply bal | apply pbN | apply bd1 | refine bst ?_ GE428.out | refine bst ?_ GE448.out) | exact HB.out))⟩)
              ·skip
               refine box_step ?hg (N := 5) ?hd (cs := #[.int .i64 0, .int .i64 0, .int .i64 0, .string (⟨#[]⟩ : ByteArray), .int .i64 0]) (t := 36) ?hr ?_; (case hd => rfl); (case hg => rfl); (case hr => first | (go_simp; done) | (go_simp; rfl))
               intro gb448 hg w70 hbox hb
               have n0_ := Azz.mk (blk_below (g := gb428) (o := .cells #[.int .i64 0, .int .i64 0, .int .i64 0, .string (⟨#[]⟩ : ByteArray), .int .i64 0] 36 (0, 0)) (by (with_reducible repeat (first | refine kdN ?_ _ | refine kd1 ?_ | refine kal ?_ _)); exact BK428.out) hb)
               have n1_ := Azz.mk (below_step (by repeat (first | (with_reducible first | exact HB.out | apply bal | apply pbN | apply bd1 | refine bst ?_ GE428.out) | exact HB.out)) hb)
               have n2_ := Azz.mk (hbox)
               have n3_ := Azz.mk ((by rw [hg]; exact (below_size (by repeat (first | (with_reducible first | exact HB.out | apply bal | apply pbN | apply bd1 | refine bst ?_ GE428.out) | exact HB.out))) : w.heap.size ≤ gb448))
               have n4_ := Azz.mk ((by rw [hg]; exact (below_size (by repeat (first | (with_reducible first | exact HB.out | apply bal | apply pbN | apply bd1 | refine bst ?_ GE428.out) | exact HB.out))) : w.heap.size ≤ gb448))
               have n5_ := Azz.mk ((by rw [hg]; exact Nat.ne_of_lt (blk_lt (g := gb428) (o := .cells #[.int .i64 0, .int .i64 0, .int .i64 0, .string (⟨#[]⟩ : ByteArray), .int .i64 0] 36 (0, 0)) (by (with_reducible repeat (first | refine kdN ?_ _ | refine kd1 ?_ | refine kal ?_ _)); exact BK428.out)) : gb428 ≠ gb448))
               have n6_ := Azz.mk ((by rw [hg]; exact Nat.ne_of_gt (blk_lt (g := gb428) (o := .cells #[.int .i64 0, .int .i64 0, .int .i64 0, .string (⟨#[]⟩ : ByteArray), .int .i64 0] 36 (0, 0)) (by (with_reducible repeat (first | refine kdN ?_ _ | refine kd1 ?_ | refine kal ?_ _)); exact BK428.out)) : gb448 ≠ gb428))
               clear BK428
               clear HB
               have BK428 := n0_
               have HB := n1_
               have BK448 := n2_
               have GW448 := n3_
               have GE448 := n4_
               have NB428_448 := n5_
               have NB448_428 := n6_
               clear n0_ n1_ n2_ n3_ n4_ n5_ n6_
               clear hb hbox hg
               refine hK.out _ _ ⟨((HB.out.cell (World.block_lt_of_cell? w _ hw437_0)).trans hw437_0), ((HB.out.cell (World.block_lt_of_cell? w _ hw438_0)).trans hw438_0), (Kd.C_string (P := Try.prog) (A := A69) (c := c69) Try.underlying26 Try.underlying5 Try.underlying9 (Kd.C_below HR447.out (by repeat (first | (with_reducible first | exact HB.out | apply bal | apply pbN | apply bd1 | refine bst ?_ GE428.out) | exact HB.out))))⟩ (fun hHeld => ?_)
               clear hK K
               refine norm_ (a' := ?_) ?_ ?_
               rotate_left
               ·show Act.put _ (some 5) _ = _
                simp only [Act.put, List.setIfInBounds_toArray, List.set_cons_zero, List.set_cons_succ, i64_w, i32_w]
                rfl
               refine one_ (i := 10) (N := some 51) #[true, true, true, true, true, true, true, true, true, true, true, false, true, true, true, true, true, true, true, false, true, false] rfl rfl (one_of HT_.out (by kernel_rfl)) (by decide) (fun K hK => ?_)
               refine goes_ Try.func36 (by kernel_rfl) rfl #[.slice A68 y439.length c68] (by rfl) rfl rfl (by (try simp only [List.map_toArray, List.map_cons, List.map_nil]); first | done | rfl | (simp only [List.length_drop, List.length_take]; rfl)) ?_
               with_reducible refine (rf_value.calls kj1 _ _ y439 t443 _ ?side1 ?side2 A21.out).mono ?_
               (case side1 => repeat (first | exact (Kd.C_below HR442.out HB.out) | (with_reducible refine Kd.C_alloc ?_ _) | (with_reducible refine Kd.C_drewN ?_ _) | (with_reducible refine Kd.C_drew ?_)))
               (case side2 => exact HC442.out)
               rintro e w' ⟨rfl, ⟨nd, rfl⟩⟩
               refine ⟨_, rfl, ?_⟩
               refine hK.out _ _ ⟨((HB.out.cell (World.block_lt_of_cell? w _ hw437_0)).trans hw437_0), ((HB.out.cell (World.block_lt_of_cell? w _ hw438_0)).trans hw438_0), (Kd.C_string (P := Try.prog) (A := A69) (c := c69) Try.underlying26 Try.underlying5 Try.underlying9 (Kd.C_below HR447.out (by repeat (first | (with_reducible first | exact HB.out | apply bal | apply pbN | apply bd1 | refine bst ?_ GE428.out) | exact HB.out))))⟩ (fun hHeld => ?_)
               clear hK K
               refine norm_ (a' := ?_) ?_ ?_
               rotate_left
               ·show Act.put _ (some 51) _ = _
                simp only [Act.put, List.setIfInBounds_toArray, List.set_cons_zero, List.set_cons_succ, i64_w, i32_w]
                rfl
               refine pure_ (i := 11) (N := some 52) (v := ?_) (a' := ?_) #[true, true, true, true, true, true, true, true, true, true, true, true, true, true, true, true, true, true, true, false, true, false] rfl rfl (any_of HT_.out (by kernel_rfl)) (fun _ _ _ h => h) (Or.inl ⟨by rfl, ?_⟩) ?_ ?_
               rotate_left
               ·intro w'
                go_simp
                with_reducible rfl
               rotate_left
               ·simp only [Act.put, List.setIfInBounds_toArray, List.set_cons_zero, List.set_cons_succ, i64_w, i32_w]
                rfl
               refine pure_ (i := 19) (N := some 60) (v := ?_) (a' := ?_) #[true, true, true, true, true, true, true, true, true, true, true, true, true, true, true, true, true, true, true, true, true, false] rfl rfl (any_of HT_.out (by kernel_rfl)) (fun _ _ _ h => h) (Or.inl ⟨by rfl, ?_⟩) ?_ ?_
               rotate_left
               ·intro w'
                go_simp
                with_reducible rfl
               rotate_left
               ·simp only [Act.put, List.setIfInBounds_toArray, List.set_cons_zero, List.set_cons_succ, i64_w, i32_w]
                rfl
               exact norm_ (by first | (simp only [putAll, Act.put, List.setIfInBounds_toArray, List.set_cons_zero, List.set_cons_succ]; done) | (simp only [putAll, Act.put, List.setIfInBounds_toArray, List.set_cons_zero, List.set_cons_succ, IntKind.wrap_u32, IntKind.wrap_u8]; done)) (hCont (gb448) _ ⟨hHeld, (by (with_reducible repeat (first | refine kdN ?_ _ | refine kd1 ?_ | refine kal ?_ _)); exact BK428.out), (by (with_reducible repeat (first | refine kdN ?_ _ | refine kd1 ?_ | refine kal ?_ _)); exact BK448.out), GW448.out, GE448.out, NB428_448.out, NB448_428.out, (by repeat (first | (with_reducible first | exact HB.out | apply bal | apply pbN | apply bd1 | refine bst ?_ GE428.out | refine bst ?_ GE448.out) | exact HB.out))⟩)
             rintro gb448 w71 ⟨hS_, h0_, h1_, h2_, h3_, h4_, h5_, h6_⟩
             have n0_ : Azz (w71.heap[gb428]? = some (.cells #[.int .i64 0, .int .i64 0, .int .i64 0, .string (⟨#[]⟩ : ByteArray), .int .i64 0] 36 (0, 0))) := ⟨h0_⟩
             have n1_ : Azz (w71.heap[gb448]? = some (.cells #[.int .i64 0, .int .i64 0, .int .i64 0, .string (⟨#[]⟩ : ByteArray), .int .i64 0] 36 (0, 0))) := ⟨h1_⟩
             have n2_ : Azz (w.heap.size ≤ gb448) := ⟨h2_⟩
             have n3_ : Azz (w.heap.size ≤ gb448) := ⟨h3_⟩
             have n4_ : Azz (gb428 ≠ gb448) := ⟨h4_⟩
             have n5_ : Azz (gb448 ≠ gb428) := ⟨h5_⟩
             have n6_ : Azz (Below w.heap.size w w71) := ⟨h6_⟩
             clear BK428
             clear HB
             clear h0_ h1_ h2_ h3_ h4_ h5_ h6_
             have BK428 := n0_
             have BK448 := n1_
             have GW448 := n2_
             have GE448 := n3_
             have NB428_448 := n4_
             have NB448_428 := n5_
             have HB := n6_
             clear n0_ n1_ n2_ n3_ n4_ n5_ n6_
             have hHeld : w71.cell? ⟨ad437.block, ad437.off + 2, none⟩ = some (.int .u8 (rd l0 2)) ∧ w71.cell? ⟨ad437.block, ad437.off + 3, none⟩ = some (.int .u8 (rd l0 3)) ∧ Sem.run Try.prog (convert 26 9 (.slice A69 y444.length c69)) w71 = .ok (.string (strOfNums y444)) w71 := hS_
             refine norm_ (a' := ?_) ?_ ?_
             rotate_left
             ·simp only [putAll, Act.put, List.setIfInBounds_toArray, List.set_cons_zero, List.set_cons_succ]
              rfl
             refine one_ (i := 21) (N := none) #[true, true, true, true, true, true, true, true, true, true, true, true, true, true, true, true, true, true, true, true, true, true] rfl rfl (one_of HT_.out (by kernel_rfl)) (by decide) (fun K hK => ?_)
             have hs72 : World.cell? _ ⟨gb448, 0, none⟩ = some (.int .i64 0) := (kcl BK448.out 0).trans rfl
             have hfs72 := kfz BK448.out 0
             have hns72_0 := NB428_448.out
             have hms72_0 := NB448_428.out
             have hs73 : World.cell? _ ⟨gb448, 1, none⟩ = some (.int .i64 0) := (kcl BK448.out 1).trans rfl
             have hfs73 := kfz BK448.out 1
             have hns73_0 := NB428_448.out
             have hms73_0 := NB448_428.out
             have hs74 : World.cell? _ ⟨gb448, 2, none⟩ = some (.int .i64 0) := (kcl BK448.out 2).trans rfl
             have hfs74 := kfz BK448.out 2
             have hns74_0 := NB428_448.out
             have hms74_0 := NB448_428.out
             have hs75 : World.cell? _ ⟨gb448, 3, none⟩ = some (.string (⟨#[]⟩ : ByteArray)) := (kcl BK448.out 3).trans rfl
             have hfs75 := kfz BK448.out 3
             have hns75_0 := NB428_448.out
             have hms75_0 := NB448_428.out
             have hs76 : World.cell? _ ⟨gb448, 4, none⟩ = some (.int .i64 0) := (kcl BK448.out 4).trans rfl
             have hfs76 := kfz BK448.out 4
             have hns76_0 := NB428_448.out
             have hms76_0 := NB448_428.out
             refine skip_ (w1 := ?_) (by rfl) rfl ?_ ?_
             rotate_left
             ·go_simp
              rfl
             refine hK.out _ _ ⟨((cell_far (p := ⟨gb448, _, none⟩) (cell_ne hw437_0 GW448.out) _).trans (((cell_far (p := ⟨gb448, _, none⟩) (cell_ne hw437_0 GW448.out) _).trans (((cell_far (p := ⟨gb448, _, none⟩) (cell_ne hw437_0 GW448.out) _).trans (((cell_far (p := ⟨gb448, _, none⟩) (cell_ne hw437_0 GW448.out) _).trans (((cell_far (p := ⟨gb448, _, none⟩) (cell_ne hw437_0 GW448.out) _).trans (hHeld.1)))))))))), ((cell_far (p := ⟨gb448, _, none⟩) (cell_ne hw438_0 GW448.out) _).trans (((cell_far (p := ⟨gb448, _, none⟩) (cell_ne hw438_0 GW448.out) _).trans (((cell_far (p := ⟨gb448, _, none⟩) (cell_ne hw438_0 GW448.out) _).trans (((cell_far (p := ⟨gb448, _, none⟩) (cell_ne hw438_0 GW448.out) _).trans (((cell_far (p := ⟨gb448, _, none⟩) (cell_ne hw438_0 GW448.out) _).trans (hHeld.2.1)))))))))), (Kd.C_string (P := Try.prog) (A := A69) (c := c69) Try.underlying26 Try.underlying5 Try.underlying9 (Kd.C_below HR447.out (by repeat (first | (with_reducible first | exact (bst (bst (bst (bst (bst HB.out GE448.out) GE448.out) GE448.out) GE448.out) GE448.out) | apply bal | apply pbN | apply bd1 | refine bst ?_ GE428.out) | exact (bst (bst (bst (bst (bst HB.out GE448.out) GE448.out) GE448.out) GE448.out) GE448.out)))))⟩ (fun hHeld => ?_)
             clear hK K
             refine done_ (done_of HT_.out (by kernel_rfl)) ?_
             have hnb77 := NB448_428.out
             have hnc77 := NB428_448.out
             have hcz78_0 : World.cell? _ ⟨gb448, 0, none⟩ = some (.int .i64 0) := (kcl BK448.out 0).trans rfl
             have hcz78_1 : World.cell? _ ⟨gb448, 1, none⟩ = some (.int .i64 0) := (kcl BK448.out 1).trans rfl
             have hcz78_2 : World.cell? _ ⟨gb448, 2, none⟩ = some (.int .i64 0) := (kcl BK448.out 2).trans rfl
             have hcz78_3 : World.cell? _ ⟨gb448, 3, none⟩ = some (.string (⟨#[]⟩ : ByteArray)) := (kcl BK448.out 3).trans rfl
             have hcz78_4 : World.cell? _ ⟨gb448, 4, none⟩ = some (.int .i64 0) := (kcl BK448.out 4).trans rfl
             have hfz78_0 := kfz BK448.out 0
             have hfz78_1 := kfz BK448.out 1
             have hfz78_2 := kfz BK448.out 2
             have hfz78_3 := kfz BK448.out 3
             have hfz78_4 := kfz BK448.out 4
             try go_wp2_with (first | ((with_reducible refine gate_callee (f := 18) rfl ?_); refine goesL_ (some 62) rfl rfl Try.func18 (by kernel_rfl) rfl #[.agg #[.int .i64 (wrap64 (rd l0 2)), .int .i64 (wrap64 (rd l0 3)), .int .i64 (wrap64 (t443)), .string (strOfNums y444), .int .i64 (l0.length : Int)]] rfl (by (try simp only [List.map_toArray, List.map_cons, List.map_nil]); first | done | rfl | (simp only [List.length_drop, List.length_take]; rfl)) ?_; (with_reducible refine (rf_RightData.calls (wrap64 (rd l0 2)) (wrap64 (rd l0 3)) (wrap64 (t443)) (strOfNums y444) (l0.length : Int) false _ A24.out).mono ?_); rintro e w79 ⟨rfl, hb⟩; refine ⟨_, rfl, ?_⟩; have n0_ := Azz.mk (blk_below (g := gb428) (o := .cells #[.int .i64 0, .int .i64 0, .int .i64 0, .string (⟨#[]⟩ : ByteArray), .int .i64 0] 36 (0, 0)) (by (with_reducible repeat (first | refine kdN ?_ _ | refine kd1 ?_ | refine kal ?_ _)); refine blk_far ?_ NB428_448.out _; (with_reducible repeat (first | refine kdN ?_ _ | refine kd1 ?_ | refine kal ?_ _)); refine blk_far ?_ NB428_448.out _; (with_reducible repeat (first | refine kdN ?_ _ | refine kd1 ?_ | refine kal ?_ _)); refine blk_far ?_ NB428_448.out _; (with_reducible repeat (first | refine kdN ?_ _ | refine kd1 ?_ | refine kal ?_ _)); refine blk_far ?_ NB428_448.out _; (with_reducible repeat (first | refine kdN ?_ _ | refine kd1 ?_ | refine kal ?_ _)); refine blk_far ?_ NB428_448.out _; (with_reducible repeat (first | refine kdN ?_ _ | refine kd1 ?_ | refine kal ?_ _)); exact BK428.out) hb); have n1_ := Azz.mk (blk_below (g := gb448) (o := .cells #[.int .i64 (wrap64 (rd l0 2)), .int .i64 (wrap64 (rd l0 3)), .int .i64 (wrap64 (t443)), .string (strOfNums y444), .int .i64 (l0.length : Int)] 36 (0, 0)) (by (with_reducible repeat (first | refine kdN ?_ _ | refine kd1 ?_ | refine kal ?_ _)); refine blk_put (cs := #[.int .i64 (wrap64 (rd l0 2)), .int .i64 (wrap64 (rd l0 3)), .int .i64 (wrap64 (t443)), .string (strOfNums y444), .int .i64 0]) ?_ 4 _ rfl; (with_reducible repeat (first | refine kdN ?_ _ | refine kd1 ?_ | refine kal ?_ _)); refine blk_put (cs := #[.int .i64 (wrap64 (rd l0 2)), .int .i64 (wrap64 (rd l0 3)), .int .i64 (wrap64 (t443)), .string (⟨#[]⟩ : ByteArray), .int .i64 0]) ?_ 3 _ rfl; (with_reducible repeat (first | refine kdN ?_ _ | refine kd1 ?_ | refine kal ?_ _)); refine blk_put (cs := #[.int .i64 (wrap64 (rd l0 2)), .int .i64 (wrap64 (rd l0 3)), .int .i64 0, .string (⟨#[]⟩ : ByteArray), .int .i64 0]) ?_ 2 _ rfl; (with_reducible repeat (first | refine kdN ?_ _ | refine kd1 ?_ | refine kal ?_ _)); refine blk_put (cs := #[.int .i64 (wrap64 (rd l0 2)), .int .i64 0, .int .i64 0, .string (⟨#[]⟩ : ByteArray), .int .i64 0]) ?_ 1 _ rfl; (with_reducible repeat (first | refine kdN ?_ _ | refine kd1 ?_ | refine kal ?_ _)); refine blk_put (cs := #[.int .i64 0, .int .i64 0, .int .i64 0, .string (⟨#[]⟩ : ByteArray), .int .i64 0]) ?_ 0 _ rfl; (with_reducible repeat (first | refine kdN ?_ _ | refine kd1 ?_ | refine kal ?_ _)); exact BK448.out) hb); have n2_ := Azz.mk (below_step (by repeat (first | (with_reducible first | exact HB.out | apply bal | apply pbN | apply bd1 | refine bst ?_ GE428.out | refine bst ?_ GE448.out) | exact HB.out)) hb); clear BK428; clear BK448; clear HB; have BK428 := n0_; have BK448 := n1_; have HB := n2_; clear n0_ n1_ n2_; (try clear hb); (try clear hb2); (try clear hk); (try clear hi); have hcz80_0 : World.cell? _ ⟨gb428, 0, none⟩ = some (.int .i64 0) := (kcl BK428.out 0).trans rfl; have hcz80_1 : World.cell? _ ⟨gb428, 1, none⟩ = some (.int .i64 0) := (kcl BK428.out 1).trans rfl; have hcz80_2 : World.cell? _ ⟨gb428, 2, none⟩ = some (.int .i64 0) := (kcl BK428.out 2).trans rfl; have hcz80_3 : World.cell? _ ⟨gb428, 3, none⟩ = some (.string (⟨#[]⟩ : ByteArray)) := (kcl BK428.out 3).trans rfl; have hcz80_4 : World.cell? _ ⟨gb428, 4, none⟩ = some (.int .i64 0) := (kcl BK428.out 4).trans rfl; have hfz80_0 := kfz BK428.out 0; have hfz80_1 := kfz BK428.out 1; have hfz80_2 := kfz BK428.out 2; have hfz80_3 := kfz BK428.out 3; have hfz80_4 := kfz BK428.out 4))
             refine bodyPost_ret (results_ct rfl _ _ gb428 36 #[.int .i64 0, .int .i64 0, .int .i64 0, .string (⟨#[]⟩ : ByteArray), .int .i64 0] (0, 0) _ rfl (by (with_reducible repeat (first | refine kdN ?_ _ | refine kd1 ?_ | refine kal ?_ _)); refine blk_put (cs := #[.int .i64 0, .int .i64 0, .int .i64 0, .string (⟨#[]⟩ : ByteArray), .int .i64 0]) ?_ 4 _ rfl; (with_reducible repeat (first | refine kdN ?_ _ | refine kd1 ?_ | refine kal ?_ _)); refine blk_put (cs := #[.int .i64 0, .int .i64 0, .int .i64 0, .string (⟨#[]⟩ : ByteArray), .int .i64 0]) ?_ 3 _ rfl; (with_reducible repeat (first | refine kdN ?_ _ | refine kd1 ?_ | refine kal ?_ _)); refine blk_put (cs := #[.int .i64 0, .int .i64 0, .int .i64 0, .string (⟨#[]⟩ : ByteArray), .int .i64 0]) ?_ 2 _ rfl; (with_reducible repeat (first | refine kdN ?_ _ | refine kd1 ?_ | refine kal ?_ _)); refine blk_put (cs := #[.int .i64 0, .int .i64 0, .int .i64 0, .string (⟨#[]⟩ : ByteArray), .int .i64 0]) ?_ 1 _ rfl; (with_reducible repeat (first | refine kdN ?_ _ | refine kd1 ?_ | refine kal ?_ _)); refine blk_put (cs := #[.int .i64 0, .int .i64 0, .int .i64 0, .string (⟨#[]⟩ : ByteArray), .int .i64 0]) ?_ 0 _ rfl; (with_reducible repeat (first | refine kdN ?_ _ | refine kd1 ?_ | refine kal ?_ _)); exact BK428.out) Try.underlying36 rfl (by kernel_rfl)) rfl ?_
             exact ⟨by first | rfl | (simp [errW_none, errW_some] <;> rfl) | (simp [*, errW_none, errW_some] <;> rfl), by repeat (first | (with_reducible first | exact HB.out | apply bal | apply pbN | apply bd1 | refine bst ?_ GE428.out | refine bst ?_ GE448.out) | exact HB.out)⟩
           ·rw [if_neg c23] at H
            exact absurd H (by simp)
          ·rw [if_neg c22] at H
           exact absurd H (by simp)
         ·rw [if_neg c20] at H
          exact absurd H (by simp)
        ·rw [if_neg c19] at H
         exact absurd H (by simp)
       ·rw [if_neg c18] at H
        exact absurd H (by simp)
     ·rw [if_neg c13] at H
      exact absurd H (by simp)
    ·replace c12 := Bool.eq_false_iff.mpr c12
     subst c12
     have H1 : (some (0, 0, 0, (⟨#[]⟩ : ByteArray), 0, 8)) = some (r1, r2, r3, r4, r5, r6) := by rw [if_neg (show ¬ (false = true) by decide)] at H; exact H
     clear H
     have H := H1
     clear H1
     simp only [Option.some.injEq, Prod.mk.injEq] at H
     obtain ⟨rfl, rfl, rfl, rfl, rfl, rfl⟩ := H
     go_wp2_with (first | ((with_reducible refine gate_callee (f := 35) rfl ?_); refine goesL_ (some 28) rfl rfl Try.func35 (by kernel_rfl) rfl #[.slice A0 l0.length c0] rfl (by (try simp only [List.map_toArray, List.map_cons, List.map_nil]); first | done | rfl | (simp only [List.length_drop, List.length_take]; rfl)) ?_; (with_reducible refine (rf_sum.calls kj1 _ _ l0 false _ ?side1 ?side2 A11.out).mono ?_); (case side1 => repeat (first | exact (Kd.C_below HR0.out HB.out) | (with_reducible refine Kd.C_alloc ?_ _) | (with_reducible refine Kd.C_drewN ?_ _) | (with_reducible refine Kd.C_drew ?_))); (case side2 => exact HC0.out); rintro e w' ⟨rfl, ⟨nd, rfl⟩⟩; refine ⟨_, rfl, ?_⟩; (try (rw [drewN_self wc]; generalize hq_ : World.drewN wc _ = wc; have n0_ : Azz (wc.heap[gb428]? = some (.cells #[.int .i64 0, .int .i64 0, .int .i64 0, .string (⟨#[]⟩ : ByteArray), .int .i64 0] 36 (0, 0))) := ⟨by rw [← hq_]; exact (by (with_reducible repeat (first | refine kdN ?_ _ | refine kd1 ?_ | refine kal ?_ _)); exact BK428.out)⟩; have n1_ : Azz (Below w.heap.size w wc) := ⟨by rw [← hq_]; exact (by repeat (first | (with_reducible first | exact HB.out | apply bal | apply pbN | apply bd1 | refine bst ?_ GE428.out) | exact HB.out))⟩; clear BK428 HB hq_; have BK428 := n0_; have HB := n1_; clear n0_ n1_)); have hcz81_0 : World.cell? _ ⟨gb428, 0, none⟩ = some (.int .i64 0) := (kcl BK428.out 0).trans rfl; have hcz81_1 : World.cell? _ ⟨gb428, 1, none⟩ = some (.int .i64 0) := (kcl BK428.out 1).trans rfl; have hcz81_2 : World.cell? _ ⟨gb428, 2, none⟩ = some (.int .i64 0) := (kcl BK428.out 2).trans rfl; have hcz81_3 : World.cell? _ ⟨gb428, 3, none⟩ = some (.string (⟨#[]⟩ : ByteArray)) := (kcl BK428.out 3).trans rfl; have hcz81_4 : World.cell? _ ⟨gb428, 4, none⟩ = some (.int .i64 0) := (kcl BK428.out 4).trans rfl; have hfz81_0 := kfz BK428.out 0; have hfz81_1 := kfz BK428.out 1; have hfz81_2 := kfz BK428.out 2; have hfz81_3 := kfz BK428.out 3; have hfz81_4 := kfz BK428.out 4))
     refine bodyPost_ret (results_ct rfl _ _ gb428 36 #[.int .i64 0, .int .i64 0, .int .i64 0, .string (⟨#[]⟩ : ByteArray), .int .i64 0] (0, 0) _ rfl (by (with_reducible repeat (first | refine kdN ?_ _ | refine kd1 ?_ | refine kal ?_ _)); refine blk_put (cs := #[.int .i64 0, .int .i64 0, .int .i64 0, .string (⟨#[]⟩ : ByteArray), .int .i64 0]) ?_ 4 _ rfl; (with_reducible repeat (first | refine kdN ?_ _ | refine kd1 ?_ | refine kal ?_ _)); refine blk_put (cs := #[.int .i64 0, .int .i64 0, .int .i64 0, .string (⟨#[]⟩ : ByteArray), .int .i64 0]) ?_ 3 _ rfl; (with_reducible repeat (first | refine kdN ?_ _ | refine kd1 ?_ | refine kal ?_ _)); refine blk_put (cs := #[.int .i64 0, .int .i64 0, .int .i64 0, .string (⟨#[]⟩ : ByteArray), .int .i64 0]) ?_ 2 _ rfl; (with_reducible repeat (first | refine kdN ?_ _ | refine kd1 ?_ | refine kal ?_ _)); refine blk_put (cs := #[.int .i64 0, .int .i64 0, .int .i64 0, .string (⟨#[]⟩ : ByteArray), .int .i64 0]) ?_ 1 _ rfl; (with_reducible repeat (first | refine kdN ?_ _ | refine kd1 ?_ | refine kal ?_ _)); refine blk_put (cs := #[.int .i64 0, .int .i64 0, .int .i64 0, .string (⟨#[]⟩ : ByteArray), .int .i64 0]) ?_ 0 _ rfl; (with_reducible repeat (first | refine kdN ?_ _ | refine kd1 ?_ | refine kal ?_ _)); exact BK428.out) Try.underlying36 rfl (by kernel_rfl)) rfl ?_
     exact ⟨by first | rfl | (simp [errW_none, errW_some] <;> rfl) | (simp [*, errW_none, errW_some] <;> rfl), by repeat (first | (with_reducible first | exact HB.out | apply bal | apply pbN | apply bd1 | refine bst ?_ GE428.out) | exact HB.out)⟩

end Go.Proofs.Ytgeheedfmdlefaa.PF
end
