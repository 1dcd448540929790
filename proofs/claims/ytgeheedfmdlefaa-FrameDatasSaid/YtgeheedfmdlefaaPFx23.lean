-- Written by a program for this claim.
import Derived.Test.YtgeheedfmdlefaaPFx0
import Derived.Test.YtgeheedfmdlefaaPFx17
import Derived.Test.YtgeheedfmdlefaaPFx18
import Derived.Test.YtgeheedfmdlefaaPFx19
namespace Go.Proofs.Ytgeheedfmdlefaa.PF
open Go.RowKit Go.Proofs.YtgeheedfmdlefaaW.PrintWords Go.Proofs.YtgeheedfmdlefaaW.PrintLast Go.Proofs.YtgeheedfmdlefaaW.PrintMore
attribute [local go_sem] max2_int min2_int max_two min_two max_three min_three max_four min_four   -- for this text's walks alone
set_option linter.unusedVariables false
set_option linter.unusedSimpArgs false

/-! ### tocsinref06_Data: function 20 -/
def tocsinref06_Data.l0 : Nat → List Int → Int → Int → Int → ByteArray → Int → Option (List Int)
  | 0, _, _, _, _, _, _ => none
  | k + 1, x3, x340000, x340001, x340002, x340003, x340004 => if (x3.length : Int) < (wrap64 (x340004 - 4)) then (if x3.length < 140737488355328 then (tocsinref06_Data.l0 k (x3 ++ [0]) x340000 x340001 x340002 x340003 x340004) else (none)) else ((tocsinref06_Sum.f k x3).bind fun t365 => ((tocsinref06_number.f k (IntKind.u64.wrap (t365)) 4).bind fun t366 => ((tocsinref06_lay.f k x3 t366).bind fun t369 => (some t369))))
def tocsinref06_Data.f (k : Nat) (a0_0 : Int) (a0_1 : Int) (a0_2 : Int) (a0_3 : ByteArray) (a0_4 : Int) : Option (List Int) := (tocsinref06_number.f k (IntKind.u64.wrap (a0_2)) 4).bind fun t343 => ((tocsinref06_lay.f k (([8, 0, (a0_0) % 256, (a0_1) % 256] : List Int)) t343).bind fun t346 => ((tocsinref06_number.f k (IntKind.u64.wrap ((a0_3.size : Int))) 2).bind fun t349 => ((tocsinref06_lay.f k t346 t349).bind fun t352 => (if a0_3.size ≤ 9223372036854775807 then ((tocsinref06_lay.f k t352 (bytesOf a0_3)).bind fun t359 => (tocsinref06_Data.l0 k t359 a0_0 a0_1 a0_2 a0_3 a0_4)) else (none)))))
theorem tocsinref06_Data.mono_l : ∀ k, (∀ y0 y1 y2 y3 y4 y5, LeO (tocsinref06_Data.l0 k y0 y1 y2 y3 y4 y5) (tocsinref06_Data.l0 (k + 1) y0 y1 y2 y3 y4 y5))
  | 0 => fun _ _ _ _ _ _ r h => by simp [tocsinref06_Data.l0] at h
  | k + 1 => by
    have ih0 := tocsinref06_Data.mono_l k
    · intro y0 y1 y2 y3 y4 y5
      unfold tocsinref06_Data.l0
      repeat' first
      | (with_reducible exact ih0 _ _ _ _ _ _)
      | (with_reducible exact tocsinref06_Sum.mono _ _)
      | (with_reducible exact tocsinref06_lay.mono _ _ _)
      | (with_reducible exact tocsinref06_number.mono _ _ _)
      | (with_reducible exact LeO.refl _)
      | (with_reducible exact LeO.none _)
      | (with_reducible refine LeO.ite ?_ ?_)
      | (with_reducible refine LeO.bind ?_ (fun _ => ?_))
      | exact ih0 _ _ _ _ _ _
      | exact tocsinref06_Sum.mono _ _
      | exact tocsinref06_lay.mono _ _ _
      | exact tocsinref06_number.mono _ _ _
      | exact LeO.none _
      | refine LeO.ite ?_ ?_
      | refine LeO.bind ?_ (fun _ => ?_)
theorem tocsinref06_Data.mono : ∀ a0 a1 a2 a3 a4 k, LeO (tocsinref06_Data.f k a0 a1 a2 a3 a4) (tocsinref06_Data.f (k + 1) a0 a1 a2 a3 a4) := by
  intro a0 a1 a2 a3 a4 k
  have ih0 := tocsinref06_Data.mono_l k
  unfold tocsinref06_Data.f
  repeat' first
      | (with_reducible exact ih0 _ _ _ _ _ _)
      | (with_reducible exact tocsinref06_Sum.mono _ _)
      | (with_reducible exact tocsinref06_lay.mono _ _ _)
      | (with_reducible exact tocsinref06_number.mono _ _ _)
      | (with_reducible exact LeO.refl _)
      | (with_reducible exact LeO.none _)
      | (with_reducible refine LeO.ite ?_ ?_)
      | (with_reducible refine LeO.bind ?_ (fun _ => ?_))
      | exact ih0 _ _ _ _ _ _
      | exact tocsinref06_Sum.mono _ _
      | exact tocsinref06_lay.mono _ _ _
      | exact tocsinref06_number.mono _ _ _
      | exact LeO.none _
      | refine LeO.ite ?_ ?_
      | refine LeO.bind ?_ (fun _ => ?_)
set_option maxHeartbeats 8000000 in
set_option maxRecDepth 100000 in
theorem tocsinref06_Data.calls (k : Nat) (a0_0 : Int) (a0_1 : Int) (a0_2 : Int) (a0_3 : ByteArray) (a0_4 : Int) (r : List Int) (w : World) (h : tocsinref06_Data.f k a0_0 a0_1 a0_2 a0_3 a0_4 = some r) :
    Calls Try.prog 20 #[.agg #[.int .i64 a0_0, .int .i64 a0_1, .int .i64 a0_2, .string a0_3, .int .i64 a0_4]] w fun e w' => ∃ v0_ : Value, e = .returned (v0_) ∧ Kd.R (Kd.int .u8) 5 w' w.heap.size (fun _ => True) v0_ r ∧ Below w.heap.size w w' := by
  have hu36 := Try.underlying36
  have HB := Aside0.mk (Below.refl w.heap.size w)
  have H : ((tocsinref06_number.f k (IntKind.u64.wrap (a0_2)) 4).bind fun t343 => ((tocsinref06_lay.f k (([8, 0, (a0_0) % 256, (a0_1) % 256] : List Int)) t343).bind fun t346 => ((tocsinref06_number.f k (IntKind.u64.wrap ((a0_3.size : Int))) 2).bind fun t349 => ((tocsinref06_lay.f k t346 t349).bind fun t352 => (if a0_3.size ≤ 9223372036854775807 then ((tocsinref06_lay.f k t352 (bytesOf a0_3)).bind fun t359 => (tocsinref06_Data.l0 k t359 a0_0 a0_1 a0_2 a0_3 a0_4)) else (none)))))) = some r := h
  clear h
  obtain ⟨y340, hy340⟩ : ∃ y_ : List Int, y_ = (([8, 0, (a0_0) % 256, (a0_1) % 256] : List Int)) := ⟨_, rfl⟩
  replace H : ((tocsinref06_number.f k (IntKind.u64.wrap (a0_2)) 4).bind fun t343 => ((tocsinref06_lay.f k y340 t343).bind fun t346 => ((tocsinref06_number.f k (IntKind.u64.wrap ((a0_3.size : Int))) 2).bind fun t349 => ((tocsinref06_lay.f k t346 t349).bind fun t352 => (if a0_3.size ≤ 9223372036854775807 then ((tocsinref06_lay.f k t352 (bytesOf a0_3)).bind fun t359 => (tocsinref06_Data.l0 k t359 a0_0 a0_1 a0_2 a0_3 a0_4)) else (none)))))) = some r := by first | (rw [hy340]; with_reducible exact H) | (have H2_ := (Option.bind_some _ _).symm.trans H; rw [hy340]; with_reducible exact H2_) | (have H2_ := (Option.bind_some _ _).symm.trans H; with_reducible exact H2_) | with_reducible exact H | (rw [hy340]; exact H) | exact H
  have Ny340 := Aside0.mk hy340
  clear hy340
  replace H := Option.bind_eq_some_iff.mp H
  obtain ⟨t343, A20, H⟩ := H
  replace H : ((tocsinref06_lay.f k y340 t343).bind fun t346 => ((tocsinref06_number.f k (IntKind.u64.wrap ((a0_3.size : Int))) 2).bind fun t349 => ((tocsinref06_lay.f k t346 t349).bind fun t352 => (if a0_3.size ≤ 9223372036854775807 then ((tocsinref06_lay.f k t352 (bytesOf a0_3)).bind fun t359 => (tocsinref06_Data.l0 k t359 a0_0 a0_1 a0_2 a0_3 a0_4)) else (none))))) = some r := H
  have A2 := Aside0.mk A20
  clear A20
  replace H := Option.bind_eq_some_iff.mp H
  obtain ⟨t346, A30, H⟩ := H
  replace H : ((tocsinref06_number.f k (IntKind.u64.wrap ((a0_3.size : Int))) 2).bind fun t349 => ((tocsinref06_lay.f k t346 t349).bind fun t352 => (if a0_3.size ≤ 9223372036854775807 then ((tocsinref06_lay.f k t352 (bytesOf a0_3)).bind fun t359 => (tocsinref06_Data.l0 k t359 a0_0 a0_1 a0_2 a0_3 a0_4)) else (none)))) = some r := H
  have A3 := Aside0.mk A30
  clear A30
  replace H := Option.bind_eq_some_iff.mp H
  obtain ⟨t349, A40, H⟩ := H
  replace H : ((tocsinref06_lay.f k t346 t349).bind fun t352 => (if a0_3.size ≤ 9223372036854775807 then ((tocsinref06_lay.f k t352 (bytesOf a0_3)).bind fun t359 => (tocsinref06_Data.l0 k t359 a0_0 a0_1 a0_2 a0_3 a0_4)) else (none))) = some r := H
  have A4 := Aside0.mk A40
  clear A40
  replace H := Option.bind_eq_some_iff.mp H
  obtain ⟨t352, A50, H⟩ := H
  replace H : (if a0_3.size ≤ 9223372036854775807 then ((tocsinref06_lay.f k t352 (bytesOf a0_3)).bind fun t359 => (tocsinref06_Data.l0 k t359 a0_0 a0_1 a0_2 a0_3 a0_4)) else (none)) = some r := H
  have A5 := Aside0.mk A50
  clear A50
  by_cases c6 : a0_3.size ≤ 9223372036854775807
  · rw [if_pos c6] at H
    have c6b0 := eq_true c6
    have c6b1 : decide (a0_3.size ≤ 9223372036854775807) = true := decide_eq_true c6
    try have c6b2 : (9223372036854775807 < a0_3.size) = False := eq_false (Nat.not_lt.2 c6)
    clear c6
    obtain ⟨y355, hy355⟩ : ∃ y_ : List Int, y_ = (bytesOf a0_3) := ⟨_, rfl⟩
    replace H : ((tocsinref06_lay.f k t352 y355).bind fun t359 => (tocsinref06_Data.l0 k t359 a0_0 a0_1 a0_2 a0_3 a0_4)) = some r := by first | (rw [hy355]; with_reducible exact H) | (have H2_ := (Option.bind_some _ _).symm.trans H; rw [hy355]; with_reducible exact H2_) | (have H2_ := (Option.bind_some _ _).symm.trans H; with_reducible exact H2_) | with_reducible exact H | (rw [hy355]; exact H) | exact H
    have Ny355 := Aside0.mk hy355
    clear hy355
    replace H := Option.bind_eq_some_iff.mp H
    obtain ⟨t359, A70, H⟩ := H
    replace H : (tocsinref06_Data.l0 k t359 a0_0 a0_1 a0_2 a0_3 a0_4) = some r := H
    have A7 := Aside0.mk A70
    clear A70
    have H' := Aside0.mk H
    clear H
    go_enter Try.func20, Try.ntmps20
    go_wp2_with (first | ((with_reducible refine gate_dst (N := 1) rfl ?_); refine box_event ?hg (N := 1) ?hd (cs := #[.int .i64 a0_0, .int .i64 a0_1, .int .i64 a0_2, .string a0_3, .int .i64 a0_4]) (t := 36) ?hr ?_; (case hd => rfl); (case hg => rfl); (case hr => first | (go_simp; done) | (go_simp; rfl)); intro gb339 hg w8 hbox hb; have n0_ := Aside0.mk (below_step (by repeat (first | (with_reducible first | exact HB.out | apply below_alloc | apply pw_below_drewN | apply below_drew1) | exact HB.out)) hb); have n1_ := Aside0.mk (hbox); have n2_ := Aside0.mk ((by rw [hg]; exact (below_size (by repeat (first | (with_reducible first | exact HB.out | apply below_alloc | apply pw_below_drewN | apply below_drew1) | exact HB.out))) : w.heap.size ≤ gb339)); have n3_ := Aside0.mk ((by rw [hg]; exact (below_size (by repeat (first | (with_reducible first | exact HB.out | apply below_alloc | apply pw_below_drewN | apply below_drew1) | exact HB.out))) : w.heap.size ≤ gb339)); clear HB; have HB := n0_; have BK339 := n1_; have GW339 := n2_; have GE339 := n3_; clear n0_ n1_ n2_ n3_; clear hb hbox hg; have hcz9_0 : World.cell? _ ⟨gb339, 0, none⟩ = some (.int .i64 a0_0) := (blk_cell BK339.out 0).trans rfl; have hcz9_1 : World.cell? _ ⟨gb339, 1, none⟩ = some (.int .i64 a0_1) := (blk_cell BK339.out 1).trans rfl; have hcz9_2 : World.cell? _ ⟨gb339, 2, none⟩ = some (.int .i64 a0_2) := (blk_cell BK339.out 2).trans rfl; have hcz9_3 : World.cell? _ ⟨gb339, 3, none⟩ = some (.string a0_3) := (blk_cell BK339.out 3).trans rfl; have hcz9_4 : World.cell? _ ⟨gb339, 4, none⟩ = some (.int .i64 a0_4) := (blk_cell BK339.out 4).trans rfl; have hfz9_0 := blk_frozen BK339.out 0; have hfz9_1 := blk_frozen BK339.out 1; have hfz9_2 := blk_frozen BK339.out 2; have hfz9_3 := blk_frozen BK339.out 3; have hfz9_4 := blk_frozen BK339.out 4) | ((with_reducible refine gate_dst (N := 10) rfl ?_); refine Kd.R_lit (Kd.int .u8) _ 5 ?hg (N := 10) ?hd (xs := ([8, 0, (a0_0) % 256, (a0_1) % 256] : List Int)) (inner := [.int .u8 8, .int .u8 0, .int .u8 ((a0_0) % 256), .int .u8 ((a0_1) % 256)]) (ok := fun _ => True) (okp := fun _ => True) ?hr ?hp (fun _ hk => hk) trivial (Below.refl _ _) (Nat.le_refl _) (by simp) ?_; (case hd => rfl); (case hg => rfl); (case hr => first | (go_simp; done) | (go_simp; rfl)); (case hp => exact (Reps.one (show Kd.M (Kd.int .u8) _ _ _ 8 [.int .u8 8] from rfl) (Reps.one (show Kd.M (Kd.int .u8) _ _ _ 0 [.int .u8 0] from rfl) (Reps.one (show Kd.M (Kd.int .u8) _ _ _ ((a0_0) % 256) [.int .u8 ((a0_0) % 256)] from rfl) (Reps.one (show Kd.M (Kd.int .u8) _ _ _ ((a0_1) % 256) [.int .u8 ((a0_1) % 256)] from rfl) (Reps.none _ _)))))); intro v341 w10 ho11 hb hg_ hnew_; clear hg_ hnew_; (first | rw [← Ny340.out] at ho11 | (simp only [Int.reduceToNat] at ho11; rw [← Ny340.out] at ho11)); have n0_ := Aside0.mk (Kd.R_lower ho11 (below_size (by repeat (first | (with_reducible first | exact HB.out | apply below_alloc | apply pw_below_drewN | apply below_drew1 | refine below_set ?_ GE339.out) | exact HB.out)))); have n1_ := Aside0.mk (blk_below (g := gb339) (o := .cells #[.int .i64 a0_0, .int .i64 a0_1, .int .i64 a0_2, .string a0_3, .int .i64 a0_4] 36 (0, 0)) (by (with_reducible repeat (first | refine blk_drewN ?_ _ | refine blk_drew ?_ | refine blk_alloc ?_ _)); exact BK339.out) hb); have n2_ := Aside0.mk (below_step (by repeat (first | (with_reducible first | exact HB.out | apply below_alloc | apply pw_below_drewN | apply below_drew1 | refine below_set ?_ GE339.out) | exact HB.out)) hb); clear BK339; clear HB; have HO342 := n0_; have BK339 := n1_; have HB := n2_; clear n0_ n1_ n2_; clear hb ho11; have hcz12_0 : World.cell? _ ⟨gb339, 0, none⟩ = some (.int .i64 a0_0) := (blk_cell BK339.out 0).trans rfl; have hcz12_1 : World.cell? _ ⟨gb339, 1, none⟩ = some (.int .i64 a0_1) := (blk_cell BK339.out 1).trans rfl; have hcz12_2 : World.cell? _ ⟨gb339, 2, none⟩ = some (.int .i64 a0_2) := (blk_cell BK339.out 2).trans rfl; have hcz12_3 : World.cell? _ ⟨gb339, 3, none⟩ = some (.string a0_3) := (blk_cell BK339.out 3).trans rfl; have hcz12_4 : World.cell? _ ⟨gb339, 4, none⟩ = some (.int .i64 a0_4) := (blk_cell BK339.out 4).trans rfl; have hfz12_0 := blk_frozen BK339.out 0; have hfz12_1 := blk_frozen BK339.out 1; have hfz12_2 := blk_frozen BK339.out 2; have hfz12_3 := blk_frozen BK339.out 3; have hfz12_4 := blk_frozen BK339.out 4) | ((with_reducible refine gate_callee (f := 33) rfl ?_); refine goesL_ (some 15) rfl rfl Try.func33 (by kernel_rfl) rfl #[.int .u64 (IntKind.u64.wrap (a0_2)), .int .i64 4] rfl (by (try simp only [List.map_toArray, List.map_cons, List.map_nil]); first | done | rfl | (simp only [List.length_drop, List.length_take]; rfl)) ?_; (with_reducible refine (tocsinref06_number.calls k (IntKind.u64.wrap (a0_2)) 4 t343 _ A2.out).mono ?_); rintro e w13 ⟨v344, rfl, ho0, hb⟩; refine ⟨_, rfl, ?_⟩; have n0_ := Aside0.mk (Kd.R_elder' (by (with_reducible repeat (first | apply Kd.R_alloc | apply Kd.R_drewN | apply Kd.R_drew)); exact HO342.out) (Kd.R_base ho0) hb); have n1_ := Aside0.mk (Kd.R_lower (Kd.R_new' ho0 (Kd.R_lt (by (with_reducible repeat (first | apply Kd.R_alloc | apply Kd.R_drewN | apply Kd.R_drew)); exact HO342.out))) (below_size (by repeat (first | (with_reducible first | exact HB.out | apply below_alloc | apply pw_below_drewN | apply below_drew1 | refine below_set ?_ GE339.out) | exact HB.out)))); have n2_ := Aside0.mk (blk_below (g := gb339) (o := .cells #[.int .i64 a0_0, .int .i64 a0_1, .int .i64 a0_2, .string a0_3, .int .i64 a0_4] 36 (0, 0)) (by (with_reducible repeat (first | refine blk_drewN ?_ _ | refine blk_drew ?_ | refine blk_alloc ?_ _)); exact BK339.out) hb); have n3_ := Aside0.mk (below_step (by repeat (first | (with_reducible first | exact HB.out | apply below_alloc | apply pw_below_drewN | apply below_drew1 | refine below_set ?_ GE339.out) | exact HB.out)) hb); clear HO342; clear BK339; clear HB; have HO342 := n0_; have HO345 := n1_; have BK339 := n2_; have HB := n3_; clear n0_ n1_ n2_ n3_; (try clear hb); (try clear hb2); (try clear hk); (try clear hi); (try clear ho0); obtain ⟨Ao14, co14, eo14⟩ := Kd.R_slice HO342.out; subst eo14; obtain ⟨Ao15, co15, eo15⟩ := Kd.R_slice HO345.out; subst eo15) | ((with_reducible refine gate_callee (f := 32) rfl ?_); refine goesL_ (some 16) rfl rfl Try.func32 (by kernel_rfl) rfl #[.slice Ao14 y340.length co14, .slice Ao15 t343.length co15] rfl (by (try simp only [List.map_toArray, List.map_cons, List.map_nil]); first | done | rfl | (simp only [List.length_drop, List.length_take]; rfl)) ?_; (with_reducible refine (tocsinref06_lay.calls k (fun k_ => some k_ = (.slice Ao14 y340.length co14 : Value).ownBlock) (.slice Ao14 y340.length co14) y340 _ _ t343 t346 w _ ?side1 ?side2 ?side3 ?side4 A3.out).mono ?_); (case side1 => repeat (first | (with_reducible first | exact HB.out | apply below_alloc | apply pw_below_drewN | apply below_drew1 | refine below_set ?_ GE339.out) | exact HB.out)); (case side2 => exact Kd.R_tight rfl HO342.out); (case side3 => exact Kd.C_kept_own (HO345.out) (fun k_ hk_ hs_ => (hk_.2) hs_)); (case side4 => exact (Kd.R_reads' HO345.out).2.1); rintro e w16 ⟨v347, rfl, ho0, hb, hkp⟩; refine ⟨_, rfl, ?_⟩; have n0_ := Aside0.mk (blk_kept (by (with_reducible repeat (first | refine blk_drewN ?_ _ | refine blk_drew ?_ | refine blk_alloc ?_ _)); exact BK339.out) hkp (fun hs_ => (fun e_ => (Kd.R_ne HO342.out BK339.out (by decide)) e_) hs_)); have n1_ := Aside0.mk (Kd.R_mono (ok' := fun k_ => some k_ ≠ (v347 : Value).ownBlock) (Kd.R_keptB (HO345.out) hkp (fun k_ hk_ hs_ => (hk_.2) hs_)) (fun k_ hk_ => fun e_ => Or.elim (ho0.1 k_ e_.symm) (fun hs_ => hk_.2.1 hs_) (fun hn_ => Nat.not_le.2 hk_.2.2 hn_))); have n2_ := Aside0.mk (Kd.R_mono (ok' := fun k_ => some k_ ≠ (.slice Ao15 t343.length co15 : Value).ownBlock) ho0 (fun k_ hk_ => Or.elim hk_ (fun hs_ => fun e_ => (((HO345.out).1 k_ e_.symm).2) hs_) (fun hn_ => (Kd.fresh' (Kd.R_lt (by (with_reducible repeat (first | apply Kd.R_alloc | apply Kd.R_drewN | apply Kd.R_drew)); exact HO345.out)) k_ hn_)))); have n3_ := Aside0.mk (hb); clear BK339; clear HO345; clear HB; clear HO342; have BK339 := n0_; have HO345 := n1_; have HO348 := n2_; have HB := n3_; clear n0_ n1_ n2_ n3_; (try clear hb); (try clear hkp); (try clear ho0); have hcz17_0 : World.cell? _ ⟨gb339, 0, none⟩ = some (.int .i64 a0_0) := (blk_cell BK339.out 0).trans rfl; have hcz17_1 : World.cell? _ ⟨gb339, 1, none⟩ = some (.int .i64 a0_1) := (blk_cell BK339.out 1).trans rfl; have hcz17_2 : World.cell? _ ⟨gb339, 2, none⟩ = some (.int .i64 a0_2) := (blk_cell BK339.out 2).trans rfl; have hcz17_3 : World.cell? _ ⟨gb339, 3, none⟩ = some (.string a0_3) := (blk_cell BK339.out 3).trans rfl; have hcz17_4 : World.cell? _ ⟨gb339, 4, none⟩ = some (.int .i64 a0_4) := (blk_cell BK339.out 4).trans rfl; have hfz17_0 := blk_frozen BK339.out 0; have hfz17_1 := blk_frozen BK339.out 1; have hfz17_2 := blk_frozen BK339.out 2; have hfz17_3 := blk_frozen BK339.out 3; have hfz17_4 := blk_frozen BK339.out 4) | ((with_reducible refine gate_callee (f := 33) rfl ?_); refine goesL_ (some 22) rfl rfl Try.func33 (by kernel_rfl) rfl #[.int .u64 (IntKind.u64.wrap ((a0_3.size : Int))), .int .i64 2] rfl (by (try simp only [List.map_toArray, List.map_cons, List.map_nil]); first | done | rfl | (simp only [List.length_drop, List.length_take]; rfl)) ?_; (with_reducible refine (tocsinref06_number.calls k (IntKind.u64.wrap ((a0_3.size : Int))) 2 t349 _ A4.out).mono ?_); rintro e w18 ⟨v350, rfl, ho0, hb⟩; refine ⟨_, rfl, ?_⟩; have n0_ := Aside0.mk (Kd.R_elder' (by (with_reducible repeat (first | apply Kd.R_alloc | apply Kd.R_drewN | apply Kd.R_drew)); exact HO345.out) (Kd.R_base ho0) hb); have n1_ := Aside0.mk (Kd.R_elder' (by (with_reducible repeat (first | apply Kd.R_alloc | apply Kd.R_drewN | apply Kd.R_drew)); exact HO348.out) (Kd.R_base ho0) hb); have n2_ := Aside0.mk (Kd.R_lower (Kd.R_new' (Kd.R_new' ho0 (Kd.R_lt (by (with_reducible repeat (first | apply Kd.R_alloc | apply Kd.R_drewN | apply Kd.R_drew)); exact HO345.out))) (Kd.R_lt (by (with_reducible repeat (first | apply Kd.R_alloc | apply Kd.R_drewN | apply Kd.R_drew)); exact HO348.out))) (below_size (by repeat (first | (with_reducible first | exact HB.out | apply below_alloc | apply pw_below_drewN | apply below_drew1 | refine below_set ?_ GE339.out) | exact HB.out)))); have n3_ := Aside0.mk (blk_below (g := gb339) (o := .cells #[.int .i64 a0_0, .int .i64 a0_1, .int .i64 a0_2, .string a0_3, .int .i64 a0_4] 36 (0, 0)) (by (with_reducible repeat (first | refine blk_drewN ?_ _ | refine blk_drew ?_ | refine blk_alloc ?_ _)); exact BK339.out) hb); have n4_ := Aside0.mk (below_step (by repeat (first | (with_reducible first | exact HB.out | apply below_alloc | apply pw_below_drewN | apply below_drew1 | refine below_set ?_ GE339.out) | exact HB.out)) hb); clear HO345; clear HO348; clear BK339; clear HB; have HO345 := n0_; have HO348 := n1_; have HO351 := n2_; have BK339 := n3_; have HB := n4_; clear n0_ n1_ n2_ n3_ n4_; (try clear hb); (try clear hb2); (try clear hk); (try clear hi); (try clear ho0); obtain ⟨Ao19, co19, eo19⟩ := Kd.R_slice HO348.out; subst eo19; obtain ⟨Ao20, co20, eo20⟩ := Kd.R_slice HO351.out; subst eo20) | ((with_reducible refine gate_callee (f := 32) rfl ?_); refine goesL_ (some 23) rfl rfl Try.func32 (by kernel_rfl) rfl #[.slice Ao19 t346.length co19, .slice Ao20 t349.length co20] rfl (by (try simp only [List.map_toArray, List.map_cons, List.map_nil]); first | done | rfl | (simp only [List.length_drop, List.length_take]; rfl)) ?_; (with_reducible refine (tocsinref06_lay.calls k (fun k_ => some k_ = (.slice Ao19 t346.length co19 : Value).ownBlock) (.slice Ao19 t346.length co19) t346 _ _ t349 t352 w _ ?side1 ?side2 ?side3 ?side4 A5.out).mono ?_); (case side1 => repeat (first | (with_reducible first | exact HB.out | apply below_alloc | apply pw_below_drewN | apply below_drew1 | refine below_set ?_ GE339.out) | exact HB.out)); (case side2 => exact Kd.R_tight rfl HO348.out); (case side3 => exact Kd.C_kept_own (HO351.out) (fun k_ hk_ hs_ => (hk_.2) hs_)); (case side4 => exact (Kd.R_reads' HO351.out).2.1); rintro e w21 ⟨v353, rfl, ho0, hb, hkp⟩; refine ⟨_, rfl, ?_⟩; have n0_ := Aside0.mk (blk_kept (by (with_reducible repeat (first | refine blk_drewN ?_ _ | refine blk_drew ?_ | refine blk_alloc ?_ _)); exact BK339.out) hkp (fun hs_ => (fun e_ => (Kd.R_ne HO348.out BK339.out (by decide)) e_) hs_)); have n1_ := Aside0.mk (Kd.R_mono (ok' := fun k_ => some k_ ≠ (.slice Ao20 t349.length co20 : Value).ownBlock ∧ some k_ ≠ (v353 : Value).ownBlock) (Kd.R_keptB (HO345.out) hkp (fun k_ hk_ hs_ => (hk_.1) hs_)) (fun k_ hk_ => ⟨hk_.1.2, fun e_ => Or.elim (ho0.1 k_ e_.symm) (fun hs_ => hk_.2.1 hs_) (fun hn_ => Nat.not_le.2 hk_.2.2 hn_)⟩)); have n2_ := Aside0.mk (Kd.R_mono (ok' := fun k_ => some k_ ≠ (.slice Ao15 t343.length co15 : Value).ownBlock ∧ some k_ ≠ (v353 : Value).ownBlock) (Kd.R_keptB (HO351.out) hkp (fun k_ hk_ hs_ => (hk_.2) hs_)) (fun k_ hk_ => ⟨hk_.1.1.2, fun e_ => Or.elim (ho0.1 k_ e_.symm) (fun hs_ => hk_.2.1 hs_) (fun hn_ => Nat.not_le.2 hk_.2.2 hn_)⟩)); have n3_ := Aside0.mk (Kd.R_mono (ok' := fun k_ => some k_ ≠ (.slice Ao15 t343.length co15 : Value).ownBlock ∧ some k_ ≠ (.slice Ao20 t349.length co20 : Value).ownBlock) ho0 (fun k_ hk_ => ⟨Or.elim hk_ (fun hs_ => fun e_ => (((HO345.out).1 k_ e_.symm).1) hs_) (fun hn_ => (Kd.fresh' (Kd.R_lt (by (with_reducible repeat (first | apply Kd.R_alloc | apply Kd.R_drewN | apply Kd.R_drew)); exact HO345.out)) k_ hn_)), Or.elim hk_ (fun hs_ => fun e_ => (((HO351.out).1 k_ e_.symm).2) hs_) (fun hn_ => (Kd.fresh' (Kd.R_lt (by (with_reducible repeat (first | apply Kd.R_alloc | apply Kd.R_drewN | apply Kd.R_drew)); exact HO351.out)) k_ hn_))⟩)); have n4_ := Aside0.mk (hb); clear BK339; clear HO345; clear HO351; clear HB; clear HO348; have BK339 := n0_; have HO345 := n1_; have HO351 := n2_; have HO354 := n3_; have HB := n4_; clear n0_ n1_ n2_ n3_ n4_; (try clear hb); (try clear hkp); (try clear ho0); have hcz22_0 : World.cell? _ ⟨gb339, 0, none⟩ = some (.int .i64 a0_0) := (blk_cell BK339.out 0).trans rfl; have hcz22_1 : World.cell? _ ⟨gb339, 1, none⟩ = some (.int .i64 a0_1) := (blk_cell BK339.out 1).trans rfl; have hcz22_2 : World.cell? _ ⟨gb339, 2, none⟩ = some (.int .i64 a0_2) := (blk_cell BK339.out 2).trans rfl; have hcz22_3 : World.cell? _ ⟨gb339, 3, none⟩ = some (.string a0_3) := (blk_cell BK339.out 3).trans rfl; have hcz22_4 : World.cell? _ ⟨gb339, 4, none⟩ = some (.int .i64 a0_4) := (blk_cell BK339.out 4).trans rfl; have hfz22_0 := blk_frozen BK339.out 0; have hfz22_1 := blk_frozen BK339.out 1; have hfz22_2 := blk_frozen BK339.out 2; have hfz22_3 := blk_frozen BK339.out 3; have hfz22_4 := blk_frozen BK339.out 4) | ((with_reducible refine gate_dst (N := 27) rfl ?_); refine Go.Proofs.Ytgeheedfmdlefaa.Conv.conv_event ?hg (N := 27) ?hd (e := 5) (s := a0_3) (xs := y355) Ny355.out (of_decide_eq_true (by first | (with_reducible assumption) | assumption)) ?hr ?_; (case hd => rfl); (case hg => rfl); (case hr => (have kc_ := fun W_ => Go.Lib.run_convert_string_bytes (P := Try.prog) W_ 9 26 5 a0_3 Try.underlying9 Try.underlying26 Try.underlying5; first | (go_simp; done) | (go_simp; rfl))); intro gcv24 ccv24 w23 hge_ hC hcc hb; have n0_ := Aside0.mk ((Kd.fresh' (Kd.R_lt (by (with_reducible repeat (first | apply Kd.R_alloc | apply Kd.R_drewN | apply Kd.R_drew)); exact HO345.out)) gcv24 hge_)); have n1_ := Aside0.mk ((Kd.fresh' (Kd.R_lt (by (with_reducible repeat (first | apply Kd.R_alloc | apply Kd.R_drewN | apply Kd.R_drew)); exact HO351.out)) gcv24 hge_)); have n2_ := Aside0.mk ((Kd.fresh' (Kd.R_lt (by (with_reducible repeat (first | apply Kd.R_alloc | apply Kd.R_drewN | apply Kd.R_drew)); exact HO354.out)) gcv24 hge_)); have n3_ := Aside0.mk (Kd.R_below (by (with_reducible repeat (first | apply Kd.R_alloc | apply Kd.R_drewN | apply Kd.R_drew)); exact HO345.out) hb); have n4_ := Aside0.mk (Kd.R_below (by (with_reducible repeat (first | apply Kd.R_alloc | apply Kd.R_drewN | apply Kd.R_drew)); exact HO351.out) hb); have n5_ := Aside0.mk (Kd.R_below (by (with_reducible repeat (first | apply Kd.R_alloc | apply Kd.R_drewN | apply Kd.R_drew)); exact HO354.out) hb); have n6_ := Aside0.mk (blk_below (g := gb339) (o := .cells #[.int .i64 a0_0, .int .i64 a0_1, .int .i64 a0_2, .string a0_3, .int .i64 a0_4] 36 (0, 0)) (by (with_reducible repeat (first | refine blk_drewN ?_ _ | refine blk_drew ?_ | refine blk_alloc ?_ _)); exact BK339.out) hb); have n7_ := Aside0.mk (below_step (by repeat (first | (with_reducible first | exact HB.out | apply below_alloc | apply pw_below_drewN | apply below_drew1 | refine below_set ?_ GE339.out) | exact HB.out)) hb); have n8_ := Aside0.mk (hC); have n9_ := Aside0.mk (hcc); clear HO345; clear HO351; clear HO354; clear BK339; clear HB; have HNcv24_HO345 := n0_; have HNcv24_HO351 := n1_; have HNcv24_HO354 := n2_; have HO345 := n3_; have HO351 := n4_; have HO354 := n5_; have BK339 := n6_; have HB := n7_; have HR358 := n8_; have HC358 := n9_; clear n0_ n1_ n2_ n3_ n4_ n5_ n6_ n7_ n8_ n9_; clear hb hC hcc hge_; obtain ⟨Ao25, co25, eo25⟩ := Kd.R_slice HO354.out; subst eo25) | ((with_reducible refine gate_callee (f := 32) rfl ?_); refine goesL_ (some 28) rfl rfl Try.func32 (by kernel_rfl) rfl #[.slice Ao25 t352.length co25, .slice (some ⟨gcv24, 0, none⟩) y355.length ccv24] rfl (by (try simp only [List.map_toArray, List.map_cons, List.map_nil]); first | done | rfl | (simp only [List.length_drop, List.length_take]; rfl)) ?_; (with_reducible refine (tocsinref06_lay.calls k (fun k_ => some k_ = (.slice Ao25 t352.length co25 : Value).ownBlock) (.slice Ao25 t352.length co25) t352 _ _ y355 t359 w _ ?side1 ?side2 ?side3 ?side4 A7.out).mono ?_); (case side1 => repeat (first | (with_reducible first | exact HB.out | apply below_alloc | apply pw_below_drewN | apply below_drew1 | refine below_set ?_ GE339.out) | exact HB.out)); (case side2 => exact Kd.R_tight rfl HO354.out); (case side3 => exact Go.Proofs.Ytgeheedfmdlefaa.Conv.conv_kept (by repeat (first | (with_reducible exact HR358.out) | (with_reducible refine Kd.C_alloc ?_ _) | (with_reducible refine Kd.C_drewN ?_ _) | (with_reducible refine Kd.C_drew ?_) | exact HR358.out)) (fun hs_ => (HNcv24_HO354.out) hs_)); (case side4 => exact HC358.out); rintro e w26 ⟨v360, rfl, ho0, hb, hkp⟩; refine ⟨_, rfl, ?_⟩; have n0_ := Aside0.mk (blk_kept (by (with_reducible repeat (first | refine blk_drewN ?_ _ | refine blk_drew ?_ | refine blk_alloc ?_ _)); exact BK339.out) hkp (fun hs_ => (fun e_ => (Kd.R_ne HO354.out BK339.out (by decide)) e_) hs_)); have n1_ := Aside0.mk (Kd.R_mono (ok' := fun k_ => some k_ ≠ (.slice Ao20 t349.length co20 : Value).ownBlock ∧ some k_ ≠ (v360 : Value).ownBlock) (Kd.R_keptB (HO345.out) hkp (fun k_ hk_ hs_ => (hk_.2) hs_)) (fun k_ hk_ => ⟨hk_.1.1, fun e_ => Or.elim (ho0.1 k_ e_.symm) (fun hs_ => hk_.2.1 hs_) (fun hn_ => Nat.not_le.2 hk_.2.2 hn_)⟩)); have n2_ := Aside0.mk (Kd.R_mono (ok' := fun k_ => some k_ ≠ (.slice Ao15 t343.length co15 : Value).ownBlock ∧ some k_ ≠ (v360 : Value).ownBlock) (Kd.R_keptB (HO351.out) hkp (fun k_ hk_ hs_ => (hk_.2) hs_)) (fun k_ hk_ => ⟨hk_.1.1, fun e_ => Or.elim (ho0.1 k_ e_.symm) (fun hs_ => hk_.2.1 hs_) (fun hn_ => Nat.not_le.2 hk_.2.2 hn_)⟩)); have n3_ := Aside0.mk (Kd.R_mono (ok' := fun k_ => some k_ ≠ (.slice Ao15 t343.length co15 : Value).ownBlock ∧ some k_ ≠ (.slice Ao20 t349.length co20 : Value).ownBlock) ho0 (fun k_ hk_ => ⟨Or.elim hk_ (fun hs_ => fun e_ => (((HO345.out).1 k_ e_.symm).2) hs_) (fun hn_ => (Kd.fresh' (Kd.R_lt (by (with_reducible repeat (first | apply Kd.R_alloc | apply Kd.R_drewN | apply Kd.R_drew)); exact HO345.out)) k_ hn_)), Or.elim hk_ (fun hs_ => fun e_ => (((HO351.out).1 k_ e_.symm).2) hs_) (fun hn_ => (Kd.fresh' (Kd.R_lt (by (with_reducible repeat (first | apply Kd.R_alloc | apply Kd.R_drewN | apply Kd.R_drew)); exact HO351.out)) k_ hn_))⟩)); have n4_ := Aside0.mk (hb); clear BK339; clear HO345; clear HO351; clear HB; clear HO354; have BK339 := n0_; have HO345 := n1_; have HO351 := n2_; have HO361 := n3_; have HB := n4_; clear n0_ n1_ n2_ n3_ n4_; (try clear hb); (try clear hkp); (try clear ho0)))
    go_loopg [3] k (fun kq v3 w' => ∃ (x3_1 : List Int), Aside0 (tocsinref06_Data.l0 kq x3_1 a0_0 a0_1 a0_2 a0_3 a0_4 = some r) ∧ Aside0 (kq ≤ k) ∧ Aside0 (Kd.R (Kd.int .u8) 5 w' w.heap.size (fun _ => True) v3 x3_1) ∧ Aside0 (w'.heap[gb339]? = some (.cells #[.int .i64 a0_0, .int .i64 a0_1, .int .i64 a0_2, .string a0_3, .int .i64 a0_4] 36 (0, 0))) ∧ Aside0 (Below w.heap.size w w'))
    case atStart => exact ⟨(t359), H', ⟨Nat.le_refl _⟩, ⟨by (with_reducible repeat (first | apply Kd.R_alloc | apply Kd.R_drewN | apply Kd.R_drew)); exact Kd.R_mono HO361.out (fun _ hk => trivial)⟩, ⟨by (with_reducible repeat (first | refine blk_drewN ?_ _ | refine blk_drew ?_ | refine blk_alloc ?_ _)); exact BK339.out⟩, ⟨by repeat (first | (with_reducible first | exact HB.out | apply below_alloc | apply pw_below_drewN | apply below_drew1 | refine below_set ?_ GE339.out) | exact HB.out)⟩⟩
    case round =>
      clear H'
      try clear c2
      try clear p2
      try clear c3
      try clear c6
      try clear c6b0
      try clear c6b1
      try clear c6b2
      try clear c20
      try clear hcz12_0
      try clear hcz12_1
      try clear hcz12_2
      try clear hcz12_3
      try clear hcz12_4
      try clear hcz17_0
      try clear hcz17_1
      try clear hcz17_2
      try clear hcz17_3
      try clear hcz17_4
      try clear hcz22_0
      try clear hcz22_1
      try clear hcz22_2
      try clear hcz22_3
      try clear hcz22_4
      try clear hcz9_0
      try clear hcz9_1
      try clear hcz9_2
      try clear hcz9_3
      try clear hcz9_4
      try clear hfz12_0
      try clear hfz12_1
      try clear hfz12_2
      try clear hfz12_3
      try clear hfz12_4
      try clear hfz17_0
      try clear hfz17_1
      try clear hfz17_2
      try clear hfz17_3
      try clear hfz17_4
      try clear hfz22_0
      try clear hfz22_1
      try clear hfz22_2
      try clear hfz22_3
      try clear hfz22_4
      try clear hfz9_0
      try clear hfz9_1
      try clear hfz9_2
      try clear hfz9_3
      try clear hfz9_4
      obtain ⟨x3_1, HA, HK1, HO_3, BK339, HB⟩ := hrel
      cases gk with
      | zero => exact absurd HA.out (by simp [tocsinref06_Data.l0])
      | succ k1 =>
        have H := HA.out
        clear HA
        simp only [tocsinref06_Data.l0] at H
        by_cases c27 : (x3_1.length : Int) < (wrap64 (a0_4 - 4))
        · rw [if_pos c27] at H
          have c27b0 : decide ((x3_1.length : Int) < (wrap64 (a0_4 - 4))) = true := decide_eq_true c27
          clear c27
          by_cases c28 : x3_1.length < 140737488355328
          · rw [if_pos c28] at H
            have LMc28 := Aside0.mk c28
            clear c28
            obtain ⟨y362, hy362⟩ : ∃ y_ : List Int, y_ = (x3_1 ++ [0]) := ⟨_, rfl⟩
            replace H : (tocsinref06_Data.l0 k1 y362 a0_0 a0_1 a0_2 a0_3 a0_4) = some r := by first | (rw [hy362]; with_reducible exact H) | (have H2_ := (Option.bind_some _ _).symm.trans H; rw [hy362]; with_reducible exact H2_) | (have H2_ := (Option.bind_some _ _).symm.trans H; with_reducible exact H2_) | with_reducible exact H | (rw [hy362]; exact H) | exact H
            have Ny362 := Aside0.mk hy362
            clear hy362
            have H' := Aside0.mk H
            clear H
            obtain ⟨Ao29, co29, eo29⟩ := Kd.R_slice HO_3.out
            subst eo29
            have hcz30_0 : World.cell? _ ⟨gb339, 0, none⟩ = some (.int .i64 a0_0) := (blk_cell BK339.out 0).trans rfl
            have hcz30_1 : World.cell? _ ⟨gb339, 1, none⟩ = some (.int .i64 a0_1) := (blk_cell BK339.out 1).trans rfl
            have hcz30_2 : World.cell? _ ⟨gb339, 2, none⟩ = some (.int .i64 a0_2) := (blk_cell BK339.out 2).trans rfl
            have hcz30_3 : World.cell? _ ⟨gb339, 3, none⟩ = some (.string a0_3) := (blk_cell BK339.out 3).trans rfl
            have hcz30_4 : World.cell? _ ⟨gb339, 4, none⟩ = some (.int .i64 a0_4) := (blk_cell BK339.out 4).trans rfl
            have hfz30_0 := blk_frozen BK339.out 0
            have hfz30_1 := blk_frozen BK339.out 1
            have hfz30_2 := blk_frozen BK339.out 2
            have hfz30_3 := blk_frozen BK339.out 3
            have hfz30_4 := blk_frozen BK339.out 4
            go_wp2_with (first | ((with_reducible refine gate_builtin (b := .append) (xs := #[.tmp 35, .tmp 36]) rfl ?_); at_builtin; refine Kd.R_append (Kd.int .u8) (w0 := w) w.heap.size rfl (.tmp 35) (.tmp 36) 26 5 (.int .u8 0) 1 rfl Try.underlying26 info5 rfl (by decide) (by omega) (.slice Ao29 x3_1.length co29) x3_1 0 [.int .u8 0] (fun _ => True) (fun _ => False) rfl rfl ?aP (fun _ hk => hk.elim) ?aF ?aO ?aB ?aS ?aL ?_; (case aP => exact rfl); (case aB => exact (by repeat (first | (with_reducible first | exact HB.out | apply below_alloc | apply pw_below_drewN | apply below_drew1 | refine below_set ?_ GE339.out) | exact HB.out))); (case aF => exact (fun _ _ => trivial)); (case aO => exact (by (with_reducible repeat (first | apply Kd.R_alloc | apply Kd.R_drewN | apply Kd.R_drew)); exact HO_3.out)); (case aS => exact (below_size (by repeat (first | (with_reducible first | exact HB.out | apply below_alloc | apply pw_below_drewN | apply below_drew1 | refine below_set ?_ GE339.out) | exact HB.out)))); (case aL => have := LMc28.out; omega); intro v363 w31 ho hb hg hat; rw [← Ny362.out] at ho; have n0_ := Aside0.mk (blk_grown (g := gb339) (o := .cells #[.int .i64 a0_0, .int .i64 a0_1, .int .i64 a0_2, .string a0_3, .int .i64 a0_4] 36 (0, 0)) (by (with_reducible repeat (first | refine blk_drewN ?_ _ | refine blk_drew ?_ | refine blk_alloc ?_ _)); exact BK339.out) hg (Kd.R_ne HO_3.out BK339.out (by decide))); have n1_ := Aside0.mk (hb); have n2_ := Aside0.mk (ho); clear BK339; clear HB; clear HO_3; have BK339 := n0_; have HB := n1_; have HO364 := n2_; clear n0_ n1_ n2_; clear ho hb hg hat))
            go_roundg k1
            case measure => have := HK1.out; omega
            case rel => exact ⟨(y362), H', ⟨by have := HK1.out; omega⟩, ⟨by (with_reducible repeat (first | apply Kd.R_alloc | apply Kd.R_drewN | apply Kd.R_drew)); exact HO364.out⟩, ⟨by (with_reducible repeat (first | refine blk_drewN ?_ _ | refine blk_drew ?_ | refine blk_alloc ?_ _)); exact BK339.out⟩, ⟨by repeat (first | (with_reducible first | exact HB.out | apply below_alloc | apply pw_below_drewN | apply below_drew1 | refine below_set ?_ GE339.out) | exact HB.out)⟩⟩
          · rw [if_neg c28] at H
            exact absurd H (by simp)
        · rw [if_neg c27] at H
          have c27b0 : decide ((x3_1.length : Int) < (wrap64 (a0_4 - 4))) = false := decide_eq_false c27
          clear c27
          replace H := Option.bind_eq_some_iff.mp H
          obtain ⟨t365, A320, H⟩ := H
          replace H : ((tocsinref06_number.f k1 (IntKind.u64.wrap (t365)) 4).bind fun t366 => ((tocsinref06_lay.f k1 x3_1 t366).bind fun t369 => (some t369))) = some r := H
          have A32 := Aside0.mk A320
          clear A320
          replace H := Option.bind_eq_some_iff.mp H
          obtain ⟨t366, A330, H⟩ := H
          replace H : ((tocsinref06_lay.f k1 x3_1 t366).bind fun t369 => (some t369)) = some r := H
          have A33 := Aside0.mk A330
          clear A330
          replace H := Option.bind_eq_some_iff.mp H
          obtain ⟨t369, A340, H⟩ := H
          replace H : (some t369) = some r := H
          have A34 := Aside0.mk A340
          clear A340
          obtain rfl := Option.some.inj H
          obtain ⟨Ao35, co35, eo35⟩ := Kd.R_slice HO_3.out
          subst eo35
          have hcz36_0 : World.cell? _ ⟨gb339, 0, none⟩ = some (.int .i64 a0_0) := (blk_cell BK339.out 0).trans rfl
          have hcz36_1 : World.cell? _ ⟨gb339, 1, none⟩ = some (.int .i64 a0_1) := (blk_cell BK339.out 1).trans rfl
          have hcz36_2 : World.cell? _ ⟨gb339, 2, none⟩ = some (.int .i64 a0_2) := (blk_cell BK339.out 2).trans rfl
          have hcz36_3 : World.cell? _ ⟨gb339, 3, none⟩ = some (.string a0_3) := (blk_cell BK339.out 3).trans rfl
          have hcz36_4 : World.cell? _ ⟨gb339, 4, none⟩ = some (.int .i64 a0_4) := (blk_cell BK339.out 4).trans rfl
          have hfz36_0 := blk_frozen BK339.out 0
          have hfz36_1 := blk_frozen BK339.out 1
          have hfz36_2 := blk_frozen BK339.out 2
          have hfz36_3 := blk_frozen BK339.out 3
          have hfz36_4 := blk_frozen BK339.out 4
          go_wp2_with (first | ((with_reducible refine gate_callee (f := 24) rfl ?_); refine goesL_ (some 40) rfl rfl Try.func24 (by kernel_rfl) rfl #[.slice Ao35 x3_1.length co35] rfl (by (try simp only [List.map_toArray, List.map_cons, List.map_nil]); first | done | rfl | (simp only [List.length_drop, List.length_take]; rfl)) ?_; (with_reducible refine (tocsinref06_Sum.calls k1 _ _ x3_1 t365 _ ?side1 ?side2 A32.out).mono ?_); (case side1 => repeat (first | exact (Kd.R_reads' HO_3.out).2.2 | (with_reducible refine Kd.C_alloc ?_ _) | (with_reducible refine Kd.C_drewN ?_ _) | (with_reducible refine Kd.C_drew ?_))); (case side2 => exact (Kd.R_reads' HO_3.out).2.1); rintro e w' ⟨rfl, ⟨nd, rfl⟩⟩; refine ⟨_, rfl, ?_⟩) | ((with_reducible refine gate_callee (f := 33) rfl ?_); refine goesL_ (some 42) rfl rfl Try.func33 (by kernel_rfl) rfl #[.int .u64 (IntKind.u64.wrap (t365)), .int .i64 4] rfl (by (try simp only [List.map_toArray, List.map_cons, List.map_nil]); first | done | rfl | (simp only [List.length_drop, List.length_take]; rfl)) ?_; (with_reducible refine (tocsinref06_number.calls k1 (IntKind.u64.wrap (t365)) 4 t366 _ A33.out).mono ?_); rintro e w37 ⟨v367, rfl, ho0, hb⟩; refine ⟨_, rfl, ?_⟩; have n0_ := Aside0.mk (Kd.R_elder' (by (with_reducible repeat (first | apply Kd.R_alloc | apply Kd.R_drewN | apply Kd.R_drew)); exact HO_3.out) (Kd.R_base ho0) hb); have n1_ := Aside0.mk (Kd.R_lower (Kd.R_new' ho0 (Kd.R_lt (by (with_reducible repeat (first | apply Kd.R_alloc | apply Kd.R_drewN | apply Kd.R_drew)); exact HO_3.out))) (below_size (by repeat (first | (with_reducible first | exact HB.out | apply below_alloc | apply pw_below_drewN | apply below_drew1 | refine below_set ?_ GE339.out) | exact HB.out)))); have n2_ := Aside0.mk (blk_below (g := gb339) (o := .cells #[.int .i64 a0_0, .int .i64 a0_1, .int .i64 a0_2, .string a0_3, .int .i64 a0_4] 36 (0, 0)) (by (with_reducible repeat (first | refine blk_drewN ?_ _ | refine blk_drew ?_ | refine blk_alloc ?_ _)); exact BK339.out) hb); have n3_ := Aside0.mk (below_step (by repeat (first | (with_reducible first | exact HB.out | apply below_alloc | apply pw_below_drewN | apply below_drew1 | refine below_set ?_ GE339.out) | exact HB.out)) hb); clear HO_3; clear BK339; clear HB; have HO_3 := n0_; have HO368 := n1_; have BK339 := n2_; have HB := n3_; clear n0_ n1_ n2_ n3_; (try clear hb); (try clear hb2); (try clear hk); (try clear hi); (try clear ho0); obtain ⟨Ao38, co38, eo38⟩ := Kd.R_slice HO368.out; subst eo38) | ((with_reducible refine gate_callee (f := 32) rfl ?_); refine goesL_ (some 43) rfl rfl Try.func32 (by kernel_rfl) rfl #[.slice Ao35 x3_1.length co35, .slice Ao38 t366.length co38] rfl (by (try simp only [List.map_toArray, List.map_cons, List.map_nil]); first | done | rfl | (simp only [List.length_drop, List.length_take]; rfl)) ?_; (with_reducible refine (tocsinref06_lay.calls k1 (fun k_ => some k_ = (.slice Ao35 x3_1.length co35 : Value).ownBlock) (.slice Ao35 x3_1.length co35) x3_1 _ _ t366 t369 w _ ?side1 ?side2 ?side3 ?side4 A34.out).mono ?_); (case side1 => repeat (first | (with_reducible first | exact HB.out | apply below_alloc | apply pw_below_drewN | apply below_drew1 | refine below_set ?_ GE339.out) | exact HB.out)); (case side2 => exact Kd.R_tight rfl HO_3.out); (case side3 => exact Kd.C_kept_own (HO368.out) (fun k_ hk_ hs_ => (hk_.2) hs_)); (case side4 => exact (Kd.R_reads' HO368.out).2.1); rintro e w39 ⟨v370, rfl, ho0, hb, hkp⟩; refine ⟨_, rfl, ?_⟩; have n0_ := Aside0.mk (blk_kept (by (with_reducible repeat (first | refine blk_drewN ?_ _ | refine blk_drew ?_ | refine blk_alloc ?_ _)); exact BK339.out) hkp (fun hs_ => (fun e_ => (Kd.R_ne HO_3.out BK339.out (by decide)) e_) hs_)); have n1_ := Aside0.mk (Kd.R_mono (ok' := fun k_ => some k_ ≠ (v370 : Value).ownBlock) (Kd.R_keptB (HO368.out) hkp (fun k_ hk_ hs_ => (hk_.2) hs_)) (fun k_ hk_ => fun e_ => Or.elim (ho0.1 k_ e_.symm) (fun hs_ => hk_.2.1 hs_) (fun hn_ => Nat.not_le.2 hk_.2.2 hn_))); have n2_ := Aside0.mk (Kd.R_mono (ok' := fun k_ => some k_ ≠ (.slice Ao38 t366.length co38 : Value).ownBlock) ho0 (fun k_ hk_ => Or.elim hk_ (fun hs_ => fun e_ => (((HO368.out).1 k_ e_.symm).2) hs_) (fun hn_ => (Kd.fresh' (Kd.R_lt (by (with_reducible repeat (first | apply Kd.R_alloc | apply Kd.R_drewN | apply Kd.R_drew)); exact HO368.out)) k_ hn_)))); have n3_ := Aside0.mk (hb); clear BK339; clear HO368; clear HB; clear HO_3; have BK339 := n0_; have HO368 := n1_; have HO371 := n2_; have HB := n3_; clear n0_ n1_ n2_ n3_; (try clear hb); (try clear hkp); (try clear ho0)))
          go_ret
          exact ⟨_, by first | rfl | (simp [errW_none, errW_some] <;> rfl) | (simp [*, errW_none, errW_some] <;> rfl), by (with_reducible repeat (first | apply Kd.R_alloc | apply Kd.R_drewN | apply Kd.R_drew)); exact Kd.R_mono HO371.out (fun _ hk => trivial), by repeat (first | (with_reducible first | exact HB.out | apply below_alloc | apply pw_below_drewN | apply below_drew1 | refine below_set ?_ GE339.out) | exact HB.out)⟩
  · rw [if_neg c6] at H
    exact absurd H (by simp)

end Go.Proofs.Ytgeheedfmdlefaa.PF
