/- A port gives all out; the document's own answers. -/
import Derived.Test.YtjfmapoangigoaaG
namespace Go.Proofs.Ytjfmapoangigoaa.F
open Go Go.Proofs.Ytjfmapoangigoaa.E
set_option linter.unusedVariables false
set_option linter.unusedSimpArgs false

section
variable {W : World} {pb : Nat} {most lost : Int}
theorem clear_loop (Q : Value × St → Prop) (F : List Nat) : ∀ (n : Nat) (S : St) (g : Gd W S) (lr lo acc : List D) (b : Bool) (hn : lr.length + lo.length + (if b = true then 1 else 0) = n) (h : PortAt S pb most lost lr lo F) (va : Value) (ha : Sl DT S va acc) (hs : acc.length + n ≤ 2 ^ 20) (bb : Nat) (cur : D) (hb : S.heap bb = .row (dcs cur) 0) (hbW : W.heap.size ≤ bb) (hbF : bb ∉ F) (hba : bb ∉ blkOf va) (haF : ∀ i, i ∈ blkOf va → i ∉ F)
    (hbf : b = false → lr = [] ∧ lo = []) (y1 y2 y6 y7 y8 y9 y10 y11 y12 y13 y14 y15 y16 y17 y18 y19 y20 y21 y22 : Value)
    (K : ∀ v S', Gd W S' → PortAt S' pb most lost [] [] F → Sl DT S' v (acc ++ (if b = true then cur :: (lr ++ lo) else [])) → Ext (pb :: blkOf va) S S' → (∀ i, i ∈ blkOf v → i ∈ blkOf va ∨ S.c ≤ i) → Q (v, S')),
    Wp (bindO (la W c16_11010 ⟨#[pp pb, y1, y2, va, .pointer (some ⟨bb, 0, none⟩), .bool b, y6, y7, y8, y9, y10, y11, y12, y13, y14, y15, y16, y17, y18, y19, y20, y21, y22], []⟩ S) (kc W c16 [1, 1, 0, 1, 0] f16)) Q := by
  intro n
  induction n with
  | zero =>
    intro S g lr lo acc b hn h va ha hs bb cur hb hbW hbF hba haF hbf y1 y2 y6 y7 y8 y9 y10 y11 y12 y13 y14 y15 y16 y17 y18 y19 y20 y21 y22 K
    cases b with
    | true => simp at hn
    | false =>
      obtain ⟨rfl, rfl⟩ := hbf rfl
      rw [r16_11010]
      simp -implicitDefEqProofs (disch := first | assumption | omega | (simp only [new_c, new_lock, upd_c, upd_lock, relock_c, relock_lock] <;> omega) | fail) only [k16_11010_0, ↓bindV_some, ↓bindS_some, ↓bindT_some, ↓bindO_some, ↓condK_true, ↓condK_false, ↓gV_tt, ↓gV_tf, ↓gV_ft, ↓gV_ff, ↓gV_undef, wV_true, wV_false, ↓wO_true, ↓wO_false, ↓wS_true, ↓wS_false, ↓wT_true, ↓wT_false, bindV_some, bindS_some, bindT_some, bindO_some, condK_true, condK_false, gV_bool, wO_true, wO_false, wS_true, wS_false, wT_true, wT_false, bin_add, bin_sub, bin_mul, bin_lss, bin_leq, bin_gtr, bin_geq, bin_eql, bin_neq, bin_and, bin_or, bin_xor, bin_andNot, un_not, un_compl32, pick_true, pick_false, bin_str_eql, bin_str_neq, ex_nth, nil_ptr, nil_func, box_agg, box_int, box_bool, box_string, box_slice, box_pointer, cell_at, cells_at, put_cons, cellOf_row, cellsOf_row, putOf_row, nth_zero, nth_succ, aggOf_some, new_self, pos1, cast0, cast1, eq_self, new_upd, new_at, new_lo, upd_lo, new_c, new_lock, upd_self, upd_c, upd_lock, relock_heap, relock_c, relock_lock, relock_new, bindO_bindS, bindO_bindO, relock_back, qS_true, unlock_some, splice_nil, splice_cons, decide_true, decide_false, beq_self_eq_true, and_self, and_true, true_and, and_false, false_and, if_true, if_false, Bool.not_true, Bool.not_false, Nat.zero_add, Nat.add_zero, List.length_cons, List.length_nil, List.drop_zero, List.drop_succ_cons, List.take_succ_cons, List.take_zero, List.set_cons_zero, List.set_cons_succ, List.all_cons, List.all_nil, storable_int, storable_bool, storable_string, storable_pointer, storable_slice, Bool.and_true, Bool.true_and, Bool.and_self, bff, bft, not_true_eq_false, Nat.reduceAdd, Nat.reduceSub, Nat.reduceMul, Nat.reduceLeDiff, Nat.reduceLT, Nat.reduceEqDiff, Int.reduceLE, Int.reduceLT, Int.reduceAdd, Int.reduceNeg, Int.reduceEq, Int.reduceSub, Int.reduceMul, Int.reduceToNat, Int.toNat_natCast, Int.toNat_zero, Nat.zero_mul, Nat.mul_one, Bool.or_false, Bool.false_or, Bool.false_and, Bool.and_false, ↓reduceIte, Nat.le_refl, not_false_eq_true, Option.isNone_some, Option.isNone_none, call_7, call_8, call_9, call_10, call_11, call_12, call_13, call_14, call_15, call_16, call_17, call_18, call_19, call_20, call_21, call_22, call_23, call_24, call_25, call_26, ld_2, st_2, ld_3, st_3, ld_4, st_4, beql_4, bneq_4, ld_5, st_5, ld_9, st_9, len_9, ld_22, st_22, len_22, ix_22, bsl_22, ld_24, st_24, beql_24, bneq_24, ld_25, st_25, ld_28, st_28, len_28, ix_28, bsl_28, fa_30_0, fa_30_1, fa_30_2, fa_30_3, fa_30_4, ld_30, st_30, fa_32_0, fa_32_1, ld_32, st_32, ld_45, st_45, len_45, ix_45, bsl_45, fa_49_0, fa_49_1, fa_49_2, fa_49_3, ld_49, st_49, ld_50, st_50, len_50, ix_50, bsl_50, ld_53, st_53, beql_53, bneq_53, ld_56, st_56, ld_59, st_59, ld_60, st_60, al_30, al_32, bu_30_, bu_30_0_2_4, bu_49_0, bs_28_1_0, bs_50_1_0, bs_50_4_0_1_2_3, cv_3_5, cv_3_56, cv_3_59, cv_5_3, cv_5_60, cv_56_5, cv_60_56]
      refine .ret (K va S g h ?_ (Ext.refl g.ok) fun i hi => .inl hi)
      simpa using ha
  | succ n ih =>
    intro S g lr lo acc b hn h va ha hs bb cur hb hbW hbF hba haF hbf y1 y2 y6 y7 y8 y9 y10 y11 y12 y13 y14 y15 y16 y17 y18 y19 y20 y21 y22 K
    cases b with
    | false =>
      obtain ⟨rfl, rfl⟩ := hbf rfl
      simp at hn
    | true =>
      have hN := g.n
      have hl : S.lock ≤ S.c := g.ok.1
      have hlt := h.lt g.ok
      have halt := ha.lt g.ok
      have hbc : bb < S.c := row_lt g.ok hb
      have hpF : pb ∈ F := by obtain ⟨vr, vo, h1, h2, h3, h4, rfl, h6⟩ := h; simp
      have hpc := hlt pb hpF
      have hpa : pb ∉ blkOf va := fun hh => haF pb hh hpF
      have g1 := g.new (.row (dcs cur) 0)
      simp only [if_true] at hn K
      have hb' := hb
      simp only [dcs] at hb'
      rw [r16_11010]
      simp -implicitDefEqProofs (disch := first | assumption | omega | (simp only [new_c, new_lock, upd_c, upd_lock, relock_c, relock_lock] <;> omega) | fail) only [hb', bindO_bindS, ↓bindV_some, ↓bindS_some, ↓bindT_some, ↓bindO_some, ↓condK_true, ↓condK_false, ↓gV_tt, ↓gV_tf, ↓gV_ft, ↓gV_ff, ↓gV_undef, wV_true, wV_false, ↓wO_true, ↓wO_false, ↓wS_true, ↓wS_false, ↓wT_true, ↓wT_false, bindV_some, bindS_some, bindT_some, bindO_some, condK_true, condK_false, gV_bool, wO_true, wO_false, wS_true, wS_false, wT_true, wT_false, bin_add, bin_sub, bin_mul, bin_lss, bin_leq, bin_gtr, bin_geq, bin_eql, bin_neq, bin_and, bin_or, bin_xor, bin_andNot, un_not, un_compl32, pick_true, pick_false, bin_str_eql, bin_str_neq, ex_nth, nil_ptr, nil_func, box_agg, box_int, box_bool, box_string, box_slice, box_pointer, cell_at, cells_at, put_cons, cellOf_row, cellsOf_row, putOf_row, nth_zero, nth_succ, aggOf_some, new_self, pos1, cast0, cast1, eq_self, new_upd, new_at, new_lo, upd_lo, new_c, new_lock, upd_self, upd_c, upd_lock, relock_heap, relock_c, relock_lock, relock_new, bindO_bindS, bindO_bindO, relock_back, qS_true, unlock_some, splice_nil, splice_cons, decide_true, decide_false, beq_self_eq_true, and_self, and_true, true_and, and_false, false_and, if_true, if_false, Bool.not_true, Bool.not_false, Nat.zero_add, Nat.add_zero, List.length_cons, List.length_nil, List.drop_zero, List.drop_succ_cons, List.take_succ_cons, List.take_zero, List.set_cons_zero, List.set_cons_succ, List.all_cons, List.all_nil, storable_int, storable_bool, storable_string, storable_pointer, storable_slice, Bool.and_true, Bool.true_and, Bool.and_self, bff, bft, not_true_eq_false, Nat.reduceAdd, Nat.reduceSub, Nat.reduceMul, Nat.reduceLeDiff, Nat.reduceLT, Nat.reduceEqDiff, Int.reduceLE, Int.reduceLT, Int.reduceAdd, Int.reduceNeg, Int.reduceEq, Int.reduceSub, Int.reduceMul, Int.reduceToNat, Int.toNat_natCast, Int.toNat_zero, Nat.zero_mul, Nat.mul_one, Bool.or_false, Bool.false_or, Bool.false_and, Bool.and_false, ↓reduceIte, Nat.le_refl, not_false_eq_true, Option.isNone_some, Option.isNone_none, call_7, call_8, call_9, call_10, call_11, call_12, call_13, call_14, call_15, call_16, call_17, call_18, call_19, call_20, call_21, call_22, call_23, call_24, call_25, call_26, ld_2, st_2, ld_3, st_3, ld_4, st_4, beql_4, bneq_4, ld_5, st_5, ld_9, st_9, len_9, ld_22, st_22, len_22, ix_22, bsl_22, ld_24, st_24, beql_24, bneq_24, ld_25, st_25, ld_28, st_28, len_28, ix_28, bsl_28, fa_30_0, fa_30_1, fa_30_2, fa_30_3, fa_30_4, ld_30, st_30, fa_32_0, fa_32_1, ld_32, st_32, ld_45, st_45, len_45, ix_45, bsl_45, fa_49_0, fa_49_1, fa_49_2, fa_49_3, ld_49, st_49, ld_50, st_50, len_50, ix_50, bsl_50, ld_53, st_53, beql_53, bneq_53, ld_56, st_56, ld_59, st_59, ld_60, st_60, al_30, al_32, bu_30_, bu_30_0_2_4, bu_49_0, bs_28_1_0, bs_50_1_0, bs_50_4_0_1_2_3, cv_3_5, cv_3_56, cv_3_59, cv_5_3, cv_5_60, cv_56_5, cv_60_56]
      refine Wp.grow (P := p) (T := DT) (new := [cur]) g1 elDs (ha.new g.ok (.row (dcs cur) 0)) (src_made (n := 1) undDs g rfl (Nat.mul_pos (by omega) DT.pos) 0) (by simp only [List.length_cons, List.length_nil]; omega) fun v2 S2 g2 q2 x2 b2 => ?_
      have c2 := x2.c
      simp only [new_c] at c2 b2
      have m2 : S2.heap bb = .row (dcs cur) 0 := by
        rw [x2.same bb (by simp only [new_c]; omega) hba, new_lo _ hbc]; exact hb
      have x2' : Ext (blkOf va) S S2 := x2.pre g.ok
      have p2 := h.keep x2' (fun i hi hh => haF i hh hi) g.ok
      have hN2 := g2.n
      have hl2 : S2.lock ≤ S2.c := g2.ok.1
      simp only [dcs] at m2
      simp -implicitDefEqProofs (disch := first | assumption | omega | (simp only [new_c, new_lock, upd_c, upd_lock, relock_c, relock_lock] <;> omega) | fail) only [m2, bindO_bindS, ↓bindV_some, ↓bindS_some, ↓bindT_some, ↓bindO_some, ↓condK_true, ↓condK_false, ↓gV_tt, ↓gV_tf, ↓gV_ft, ↓gV_ff, ↓gV_undef, wV_true, wV_false, ↓wO_true, ↓wO_false, ↓wS_true, ↓wS_false, ↓wT_true, ↓wT_false, bindV_some, bindS_some, bindT_some, bindO_some, condK_true, condK_false, gV_bool, wO_true, wO_false, wS_true, wS_false, wT_true, wT_false, bin_add, bin_sub, bin_mul, bin_lss, bin_leq, bin_gtr, bin_geq, bin_eql, bin_neq, bin_and, bin_or, bin_xor, bin_andNot, un_not, un_compl32, pick_true, pick_false, bin_str_eql, bin_str_neq, ex_nth, nil_ptr, nil_func, box_agg, box_int, box_bool, box_string, box_slice, box_pointer, cell_at, cells_at, put_cons, cellOf_row, cellsOf_row, putOf_row, nth_zero, nth_succ, aggOf_some, new_self, pos1, cast0, cast1, eq_self, new_upd, new_at, new_lo, upd_lo, new_c, new_lock, upd_self, upd_c, upd_lock, relock_heap, relock_c, relock_lock, relock_new, bindO_bindS, bindO_bindO, relock_back, qS_true, unlock_some, splice_nil, splice_cons, decide_true, decide_false, beq_self_eq_true, and_self, and_true, true_and, and_false, false_and, if_true, if_false, Bool.not_true, Bool.not_false, Nat.zero_add, Nat.add_zero, List.length_cons, List.length_nil, List.drop_zero, List.drop_succ_cons, List.take_succ_cons, List.take_zero, List.set_cons_zero, List.set_cons_succ, List.all_cons, List.all_nil, storable_int, storable_bool, storable_string, storable_pointer, storable_slice, Bool.and_true, Bool.true_and, Bool.and_self, bff, bft, not_true_eq_false, Nat.reduceAdd, Nat.reduceSub, Nat.reduceMul, Nat.reduceLeDiff, Nat.reduceLT, Nat.reduceEqDiff, Int.reduceLE, Int.reduceLT, Int.reduceAdd, Int.reduceNeg, Int.reduceEq, Int.reduceSub, Int.reduceMul, Int.reduceToNat, Int.toNat_natCast, Int.toNat_zero, Nat.zero_mul, Nat.mul_one, Bool.or_false, Bool.false_or, Bool.false_and, Bool.and_false, ↓reduceIte, Nat.le_refl, not_false_eq_true, Option.isNone_some, Option.isNone_none, call_7, call_8, call_9, call_10, call_11, call_12, call_13, call_14, call_15, call_16, call_17, call_18, call_19, call_20, call_21, call_22, call_23, call_24, call_25, call_26, ld_2, st_2, ld_3, st_3, ld_4, st_4, beql_4, bneq_4, ld_5, st_5, ld_9, st_9, len_9, ld_22, st_22, len_22, ix_22, bsl_22, ld_24, st_24, beql_24, bneq_24, ld_25, st_25, ld_28, st_28, len_28, ix_28, bsl_28, fa_30_0, fa_30_1, fa_30_2, fa_30_3, fa_30_4, ld_30, st_30, fa_32_0, fa_32_1, ld_32, st_32, ld_45, st_45, len_45, ix_45, bsl_45, fa_49_0, fa_49_1, fa_49_2, fa_49_3, ld_49, st_49, ld_50, st_50, len_50, ix_50, bsl_50, ld_53, st_53, beql_53, bneq_53, ld_56, st_56, ld_59, st_59, ld_60, st_60, al_30, al_32, bu_30_, bu_30_0_2_4, bu_49_0, bs_28_1_0, bs_50_1_0, bs_50_4_0_1_2_3, cv_3_5, cv_3_56, cv_3_59, cv_5_3, cv_5_60, cv_56_5, cv_60_56]
      have g3 := g2.new (.row (dcs cur) 0)
      have x3 : Ext [] S2 (S2.new (.row (dcs cur) 0)) := Ext.new g2.ok _
      have p3 := p2.keep x3 (by simp) g2.ok
      refine Wp.bS (take_ok p3 g3 fun lr' lo' S4 g4 p4 x4 e1 e2 => ?_)
      have c4 := x4.c
      simp only [new_c] at c4
      have m4 : S4.heap S2.c = .row (dcs cur) 0 := by
        rw [x4.same _ (by simp) (by simp; omega)]; exact new_self _
      have hN4 := g4.n
      have l4 : S4.lock ≤ S2.c := by rw [x4.lock]; exact hl2
      simp only [dcs] at m4
      simp -implicitDefEqProofs (disch := first | assumption | omega | (simp only [new_c, new_lock, upd_c, upd_lock, relock_c, relock_lock] <;> omega) | fail) only [dv, m4, ↓bindV_some, ↓bindS_some, ↓bindT_some, ↓bindO_some, ↓condK_true, ↓condK_false, ↓gV_tt, ↓gV_tf, ↓gV_ft, ↓gV_ff, ↓gV_undef, wV_true, wV_false, ↓wO_true, ↓wO_false, ↓wS_true, ↓wS_false, ↓wT_true, ↓wT_false, bindV_some, bindS_some, bindT_some, bindO_some, condK_true, condK_false, gV_bool, wO_true, wO_false, wS_true, wS_false, wT_true, wT_false, bin_add, bin_sub, bin_mul, bin_lss, bin_leq, bin_gtr, bin_geq, bin_eql, bin_neq, bin_and, bin_or, bin_xor, bin_andNot, un_not, un_compl32, pick_true, pick_false, bin_str_eql, bin_str_neq, ex_nth, nil_ptr, nil_func, box_agg, box_int, box_bool, box_string, box_slice, box_pointer, cell_at, cells_at, put_cons, cellOf_row, cellsOf_row, putOf_row, nth_zero, nth_succ, aggOf_some, new_self, pos1, cast0, cast1, eq_self, new_upd, new_at, new_lo, upd_lo, new_c, new_lock, upd_self, upd_c, upd_lock, relock_heap, relock_c, relock_lock, relock_new, bindO_bindS, bindO_bindO, relock_back, qS_true, unlock_some, splice_nil, splice_cons, decide_true, decide_false, beq_self_eq_true, and_self, and_true, true_and, and_false, false_and, if_true, if_false, Bool.not_true, Bool.not_false, Nat.zero_add, Nat.add_zero, List.length_cons, List.length_nil, List.drop_zero, List.drop_succ_cons, List.take_succ_cons, List.take_zero, List.set_cons_zero, List.set_cons_succ, List.all_cons, List.all_nil, storable_int, storable_bool, storable_string, storable_pointer, storable_slice, Bool.and_true, Bool.true_and, Bool.and_self, bff, bft, not_true_eq_false, Nat.reduceAdd, Nat.reduceSub, Nat.reduceMul, Nat.reduceLeDiff, Nat.reduceLT, Nat.reduceEqDiff, Int.reduceLE, Int.reduceLT, Int.reduceAdd, Int.reduceNeg, Int.reduceEq, Int.reduceSub, Int.reduceMul, Int.reduceToNat, Int.toNat_natCast, Int.toNat_zero, Nat.zero_mul, Nat.mul_one, Bool.or_false, Bool.false_or, Bool.false_and, Bool.and_false, ↓reduceIte, Nat.le_refl, not_false_eq_true, Option.isNone_some, Option.isNone_none, call_7, call_8, call_9, call_10, call_11, call_12, call_13, call_14, call_15, call_16, call_17, call_18, call_19, call_20, call_21, call_22, call_23, call_24, call_25, call_26, ld_2, st_2, ld_3, st_3, ld_4, st_4, beql_4, bneq_4, ld_5, st_5, ld_9, st_9, len_9, ld_22, st_22, len_22, ix_22, bsl_22, ld_24, st_24, beql_24, bneq_24, ld_25, st_25, ld_28, st_28, len_28, ix_28, bsl_28, fa_30_0, fa_30_1, fa_30_2, fa_30_3, fa_30_4, ld_30, st_30, fa_32_0, fa_32_1, ld_32, st_32, ld_45, st_45, len_45, ix_45, bsl_45, fa_49_0, fa_49_1, fa_49_2, fa_49_3, ld_49, st_49, ld_50, st_50, len_50, ix_50, bsl_50, ld_53, st_53, beql_53, bneq_53, ld_56, st_56, ld_59, st_59, ld_60, st_60, al_30, al_32, bu_30_, bu_30_0_2_4, bu_49_0, bs_28_1_0, bs_50_1_0, bs_50_4_0_1_2_3, cv_3_5, cv_3_56, cv_3_59, cv_5_3, cv_5_60, cv_56_5, cv_60_56]
      have x5 : Ext [S2.c] S4 (S4.upd S2.c (.row (dcs ((lr ++ lo).headD zD)) 0)) := Ext.upd g4.ok (by omega) _
      have hne : S2.c ∉ F := fun hh => by have := hlt _ hh; omega
      have q4 := ((q2.keep x3 (by simp) g2.ok).keep x4 (fun i hi hh => by simp at hh; have := b2 i hi; omega) g3.ok)
      have blt := q2.lt g2.ok
      have q5 := q4.keep x5 (fun i hi hh => by simp at hh; have := blt i hi; omega) g4.ok
      have p5 := p4.keep x5 (fun i hi hh => by simp at hh; subst hh; exact hne hi) g4.ok
      refine ih _ (x5.good g4) lr' lo' (acc ++ [cur]) _ ?_ p5 v2 q5 ?_ S2.c ((lr ++ lo).headD zD) (upd_self _ _) hN2 hne (fun hh => by have := blt _ hh; omega) (fun i hi hh => by have := b2 i hi; have := hlt i hh; omega) ?_ _ _ _ _ _ _ _ _ _ _ _ _ _ _ _ _ _ _ _ fun v S' g' p' q' x' b' => ?_
      · subst e1 e2
        cases lr with
        | cons a t => simp at hn ⊢; omega
        | nil => cases lo with
          | cons a t => simp at hn ⊢; omega
          | nil => simp at hn ⊢; omega
      · rw [List.length_append]; show acc.length + 1 + n ≤ _; omega
      · intro hh
        subst e1 e2
        cases lr with
        | cons a t => simp at hh
        | nil => cases lo with
          | cons a t => simp at hh
          | nil => exact ⟨rfl, rfl⟩
      · have xx : Ext (pb :: blkOf va) S S4 := ((x2'.mono fun i hi => List.mem_cons_of_mem _ hi).trans x3 (by simp)).trans x4 fun i hi _ => by simp at hi; simp [hi]
        refine K v S' g' p' ?_ ((xx.trans x5 fun i hi hc => ?_).trans x' fun i hi hc => ?_) fun i hi => ?_
        · rw [List.append_assoc] at q'
          subst e1 e2
          cases lr with
          | cons a t => simpa using q'
          | nil => cases lo with
            | cons a t => simpa using q'
            | nil => simpa using q'
        · simp at hi; omega
        · simp at hi
          rcases hi with rfl | hi
          · simp
          · have := b2 i hi; omega
        · rcases b' i hi with h | h
          · exact .inr (by have := b2 i h; omega)
          · simp only [upd_c] at h; exact .inr (by omega)
theorem clear_ok {S : St} (g : Gd W S) {lr lo : List D} {F : List Nat} (h : PortAt S pb most lost lr lo F) (hs : lr.length + lo.length + 1 ≤ 2 ^ 20) {Q : Value × St → Prop}
    (K : ∀ v S', Gd W S' → PortAt S' pb most lost [] [] F → Sl DT S' v (lr ++ lo) → Ext [pb] S S' → (∀ i, i ∈ blkOf v → S.c ≤ i) → Q (v, S')) : Wp (cw W 16 #[pp pb] S) Q := by
  have hlt := h.lt g.ok
  have hpF : pb ∈ F := by obtain ⟨vr, vo, h1, h2, h3, h4, rfl, h6⟩ := h; simp
  rw [eq16]
  simp -implicitDefEqProofs (disch := first | assumption | omega | (simp only [new_c, new_lock, upd_c, upd_lock, relock_c, relock_lock] <;> omega) | fail) only [↓bindV_some, ↓bindS_some, ↓bindT_some, ↓bindO_some, ↓condK_true, ↓condK_false, ↓gV_tt, ↓gV_tf, ↓gV_ft, ↓gV_ff, ↓gV_undef, wV_true, wV_false, ↓wO_true, ↓wO_false, ↓wS_true, ↓wS_false, ↓wT_true, ↓wT_false, bindV_some, bindS_some, bindT_some, bindO_some, condK_true, condK_false, gV_bool, wO_true, wO_false, wS_true, wS_false, wT_true, wT_false, bin_add, bin_sub, bin_mul, bin_lss, bin_leq, bin_gtr, bin_geq, bin_eql, bin_neq, bin_and, bin_or, bin_xor, bin_andNot, un_not, un_compl32, pick_true, pick_false, bin_str_eql, bin_str_neq, ex_nth, nil_ptr, nil_func, box_agg, box_int, box_bool, box_string, box_slice, box_pointer, cell_at, cells_at, put_cons, cellOf_row, cellsOf_row, putOf_row, nth_zero, nth_succ, aggOf_some, new_self, pos1, cast0, cast1, eq_self, new_upd, new_at, new_lo, upd_lo, new_c, new_lock, upd_self, upd_c, upd_lock, relock_heap, relock_c, relock_lock, relock_new, bindO_bindS, bindO_bindO, relock_back, qS_true, unlock_some, splice_nil, splice_cons, decide_true, decide_false, beq_self_eq_true, and_self, and_true, true_and, and_false, false_and, if_true, if_false, Bool.not_true, Bool.not_false, Nat.zero_add, Nat.add_zero, List.length_cons, List.length_nil, List.drop_zero, List.drop_succ_cons, List.take_succ_cons, List.take_zero, List.set_cons_zero, List.set_cons_succ, List.all_cons, List.all_nil, storable_int, storable_bool, storable_string, storable_pointer, storable_slice, Bool.and_true, Bool.true_and, Bool.and_self, bff, bft, not_true_eq_false, Nat.reduceAdd, Nat.reduceSub, Nat.reduceMul, Nat.reduceLeDiff, Nat.reduceLT, Nat.reduceEqDiff, Int.reduceLE, Int.reduceLT, Int.reduceAdd, Int.reduceNeg, Int.reduceEq, Int.reduceSub, Int.reduceMul, Int.reduceToNat, Int.toNat_natCast, Int.toNat_zero, Nat.zero_mul, Nat.mul_one, Bool.or_false, Bool.false_or, Bool.false_and, Bool.and_false, ↓reduceIte, Nat.le_refl, not_false_eq_true, Option.isNone_some, Option.isNone_none, call_7, call_8, call_9, call_10, call_11, call_12, call_13, call_14, call_15, call_16, call_17, call_18, call_19, call_20, call_21, call_22, call_23, call_24, call_25, call_26, ld_2, st_2, ld_3, st_3, ld_4, st_4, beql_4, bneq_4, ld_5, st_5, ld_9, st_9, len_9, ld_22, st_22, len_22, ix_22, bsl_22, ld_24, st_24, beql_24, bneq_24, ld_25, st_25, ld_28, st_28, len_28, ix_28, bsl_28, fa_30_0, fa_30_1, fa_30_2, fa_30_3, fa_30_4, ld_30, st_30, fa_32_0, fa_32_1, ld_32, st_32, ld_45, st_45, len_45, ix_45, bsl_45, fa_49_0, fa_49_1, fa_49_2, fa_49_3, ld_49, st_49, ld_50, st_50, len_50, ix_50, bsl_50, ld_53, st_53, beql_53, bneq_53, ld_56, st_56, ld_59, st_59, ld_60, st_60, al_30, al_32, bu_30_, bu_30_0_2_4, bu_49_0, bs_28_1_0, bs_50_1_0, bs_50_4_0_1_2_3, cv_3_5, cv_3_56, cv_3_59, cv_5_3, cv_5_60, cv_56_5, cv_60_56]
  refine Wp.bS (take_ok h g fun lr' lo' S1 g1 p1 x1 e1 e2 => ?_)
  have c1 := x1.c
  have hN1 := g1.n
  have hl1 : S1.lock ≤ S1.c := g1.ok.1
  simp -implicitDefEqProofs (disch := first | assumption | omega | (simp only [new_c, new_lock, upd_c, upd_lock, relock_c, relock_lock] <;> omega) | fail) only [dv, ↓bindV_some, ↓bindS_some, ↓bindT_some, ↓bindO_some, ↓condK_true, ↓condK_false, ↓gV_tt, ↓gV_tf, ↓gV_ft, ↓gV_ff, ↓gV_undef, wV_true, wV_false, ↓wO_true, ↓wO_false, ↓wS_true, ↓wS_false, ↓wT_true, ↓wT_false, bindV_some, bindS_some, bindT_some, bindO_some, condK_true, condK_false, gV_bool, wO_true, wO_false, wS_true, wS_false, wT_true, wT_false, bin_add, bin_sub, bin_mul, bin_lss, bin_leq, bin_gtr, bin_geq, bin_eql, bin_neq, bin_and, bin_or, bin_xor, bin_andNot, un_not, un_compl32, pick_true, pick_false, bin_str_eql, bin_str_neq, ex_nth, nil_ptr, nil_func, box_agg, box_int, box_bool, box_string, box_slice, box_pointer, cell_at, cells_at, put_cons, cellOf_row, cellsOf_row, putOf_row, nth_zero, nth_succ, aggOf_some, new_self, pos1, cast0, cast1, eq_self, new_upd, new_at, new_lo, upd_lo, new_c, new_lock, upd_self, upd_c, upd_lock, relock_heap, relock_c, relock_lock, relock_new, bindO_bindS, bindO_bindO, relock_back, qS_true, unlock_some, splice_nil, splice_cons, decide_true, decide_false, beq_self_eq_true, and_self, and_true, true_and, and_false, false_and, if_true, if_false, Bool.not_true, Bool.not_false, Nat.zero_add, Nat.add_zero, List.length_cons, List.length_nil, List.drop_zero, List.drop_succ_cons, List.take_succ_cons, List.take_zero, List.set_cons_zero, List.set_cons_succ, List.all_cons, List.all_nil, storable_int, storable_bool, storable_string, storable_pointer, storable_slice, Bool.and_true, Bool.true_and, Bool.and_self, bff, bft, not_true_eq_false, Nat.reduceAdd, Nat.reduceSub, Nat.reduceMul, Nat.reduceLeDiff, Nat.reduceLT, Nat.reduceEqDiff, Int.reduceLE, Int.reduceLT, Int.reduceAdd, Int.reduceNeg, Int.reduceEq, Int.reduceSub, Int.reduceMul, Int.reduceToNat, Int.toNat_natCast, Int.toNat_zero, Nat.zero_mul, Nat.mul_one, Bool.or_false, Bool.false_or, Bool.false_and, Bool.and_false, ↓reduceIte, Nat.le_refl, not_false_eq_true, Option.isNone_some, Option.isNone_none, call_7, call_8, call_9, call_10, call_11, call_12, call_13, call_14, call_15, call_16, call_17, call_18, call_19, call_20, call_21, call_22, call_23, call_24, call_25, call_26, ld_2, st_2, ld_3, st_3, ld_4, st_4, beql_4, bneq_4, ld_5, st_5, ld_9, st_9, len_9, ld_22, st_22, len_22, ix_22, bsl_22, ld_24, st_24, beql_24, bneq_24, ld_25, st_25, ld_28, st_28, len_28, ix_28, bsl_28, fa_30_0, fa_30_1, fa_30_2, fa_30_3, fa_30_4, ld_30, st_30, fa_32_0, fa_32_1, ld_32, st_32, ld_45, st_45, len_45, ix_45, bsl_45, fa_49_0, fa_49_1, fa_49_2, fa_49_3, ld_49, st_49, ld_50, st_50, len_50, ix_50, bsl_50, ld_53, st_53, beql_53, bneq_53, ld_56, st_56, ld_59, st_59, ld_60, st_60, al_30, al_32, bu_30_, bu_30_0_2_4, bu_49_0, bs_28_1_0, bs_50_1_0, bs_50_4_0_1_2_3, cv_3_5, cv_3_56, cv_3_59, cv_5_3, cv_5_60, cv_56_5, cv_60_56]
  have g2 := g1.new (.row (dcs ((lr ++ lo).headD zD)) 0)
  have x2 : Ext [] S1 (S1.new (.row (dcs ((lr ++ lo).headD zD)) 0)) := Ext.new g1.ok _
  have p2 := p1.keep x2 (by simp) g1.ok
  refine clear_loop Q F _ _ g2 lr' lo' [] _ rfl p2 _ sl_nil ?_ S1.c ((lr ++ lo).headD zD) (new_self _) hN1 (fun hh => by have := p1.lt g1.ok _ hh; omega) (by simp [blkOf]) (by simp [blkOf]) ?_ _ _ _ _ _ _ _ _ _ _ _ _ _ _ _ _ _ _ _ fun v S' g' p' q' x' b' => ?_
  · subst e1 e2
    cases lr with
    | cons a t => simp at hs ⊢; omega
    | nil => cases lo with
      | cons a t => simp at hs ⊢; omega
      | nil => simp
  · intro hh
    subst e1 e2
    cases lr with
    | cons a t => simp at hh
    | nil => cases lo with
      | cons a t => simp at hh
      | nil => exact ⟨rfl, rfl⟩
  · refine K v S' g' p' ?_ ((x1.trans x2 (by simp)).trans x' fun i hi hc => by simpa [blkOf] using hi) fun i hi => ?_
    · subst e1 e2
      cases lr with
      | cons a t => simpa using q'
      | nil => cases lo with
        | cons a t => simpa using q'
        | nil => simpa using q'
    · rcases b' i hi with h | h
      · simp [blkOf] at h
      · simp only [new_c] at h; omega
end
end Go.Proofs.Ytjfmapoangigoaa.F
