/- A frame as bytes. -/
import Derived.Test.YtjfmapoangigoaaB
namespace Go.Proofs.Ytjfmapoangigoaa.F
open Go Go.Proofs.Ytjfmapoangigoaa.E
set_option linter.unusedVariables false
set_option linter.unusedSimpArgs false

def putI (n : Int) : Nat → List Int
  | 0 => []
  | i + 1 => IntKind.u8.wrap (n.fdiv (2 ^ min (8 * i) 64)) :: putI n i
theorem putB_eq (n : Int) : ∀ i, putB n i = (putI n i).map (Value.int .u8)
  | 0 => rfl
  | i + 1 => by rw [putB, putI, List.map_cons, putB_eq n i]; rfl
theorem putI_len (n : Int) : ∀ i, (putI n i).length = i
  | 0 => rfl
  | i + 1 => by rw [putI, List.length_cons, putI_len n i]
def strI (s : ByteArray) : List Int := s.data.toList.map fun b => (b.toNat : Int)
theorem strI_map (s : ByteArray) : (s.data.toList.map fun b => (Value.int .u8 b.toNat)) = (strI s).map (Value.int .u8) := by unfold strI; rw [List.map_map]; rfl
theorem strI_len (s : ByteArray) : (strI s).length = s.size := by unfold strI; rw [List.length_map]; rfl
theorem zeros_eq (n : Nat) : zeros n (zeroOf p 5).cells.toList = (List.replicate n (0 : Int)).map (Value.int .u8) := by
  have e : (zeroOf p 5).cells.toList = [.int .u8 0] := by kernel_rfl
  rw [e]
  unfold zeros
  rw [List.map_replicate]
  induction n with
  | zero => rfl
  | succ n ih => rw [List.range_succ, List.flatMap_append, ih, List.replicate_succ']; rfl
theorem bytes_st (bs : List Int) : (bs.map (Value.int .u8)).all storable = true := by
  rw [List.all_eq_true]
  intro x hx
  obtain ⟨b, _, rfl⟩ := List.mem_map.1 hx
  rfl
def headB (d : D) : List Int := [8, 0, IntKind.u8.wrap d.c, IntKind.u8.wrap d.l] ++ putI (IntKind.u64.wrap d.n) 4 ++ putI (IntKind.u64.wrap d.s.size) 2 ++ strI d.s ++ List.replicate (d.z - 4 - (10 + d.s.size)).toNat 0
def dataB (d : D) : List Int := headB d ++ putI (IntKind.u64.wrap (crc (headB d))) 4

section
variable {W : World}
theorem sealed_ok {S : St} (g : Gd W S) {v : Value} {bs : List Int} (h : Gr S v 1 (bs.map (Value.int .u8))) (hlen : bs.length + 4 ≤ 2 ^ 40) (h0 : 0 < bs.length) {Q : Value × St → Prop}
    (K : ∀ v' S', Gd W S' → Gr S' v' 1 ((bs ++ putI (IntKind.u64.wrap (crc bs)) 4).map (Value.int .u8)) → Ext (blkOf v) S S' → (∀ j, j ∈ blkOf v' → j ∈ blkOf v ∨ S.c ≤ j) → Q (v', S')) : Wp (cw W 24 #[v] S) Q := by
  have e := sum_ok g h (by omega) h0
  rw [eq24]
  simp -implicitDefEqProofs (disch := first | assumption | omega | (simp only [new_c, new_lock, upd_c, upd_lock, relock_c, relock_lock] <;> omega) | fail) only [e, ↓bindV_some, ↓bindS_some, ↓bindT_some, ↓bindO_some, ↓condK_true, ↓condK_false, ↓gV_tt, ↓gV_tf, ↓gV_ft, ↓gV_ff, ↓gV_undef, wV_true, wV_false, ↓wO_true, ↓wO_false, ↓wS_true, ↓wS_false, ↓wT_true, ↓wT_false, bindV_some, bindS_some, bindT_some, bindO_some, condK_true, condK_false, gV_bool, wO_true, wO_false, wS_true, wS_false, wT_true, wT_false, bin_add, bin_sub, bin_mul, bin_lss, bin_leq, bin_gtr, bin_geq, bin_eql, bin_neq, bin_and, bin_or, bin_xor, bin_andNot, un_not, un_compl32, pick_true, pick_false, bin_str_eql, bin_str_neq, ex_nth, nil_ptr, nil_func, box_agg, box_int, box_bool, box_string, box_slice, box_pointer, cell_at, cells_at, put_cons, cellOf_row, cellsOf_row, putOf_row, nth_zero, nth_succ, aggOf_some, new_self, pos1, cast0, cast1, eq_self, new_upd, new_at, new_lo, upd_lo, new_c, new_lock, upd_self, upd_c, upd_lock, relock_heap, relock_c, relock_lock, relock_new, bindO_bindS, bindO_bindO, relock_back, qS_true, unlock_some, splice_nil, splice_cons, decide_true, decide_false, beq_self_eq_true, and_self, and_true, true_and, and_false, false_and, if_true, if_false, Bool.not_true, Bool.not_false, Nat.zero_add, Nat.add_zero, List.length_cons, List.length_nil, List.drop_zero, List.drop_succ_cons, List.take_succ_cons, List.take_zero, List.set_cons_zero, List.set_cons_succ, List.all_cons, List.all_nil, storable_int, storable_bool, storable_string, storable_pointer, storable_slice, Bool.and_true, Bool.true_and, Bool.and_self, bff, bft, not_true_eq_false, Nat.reduceAdd, Nat.reduceSub, Nat.reduceMul, Nat.reduceLeDiff, Nat.reduceLT, Nat.reduceEqDiff, Int.reduceLE, Int.reduceLT, Int.reduceAdd, Int.reduceNeg, Int.reduceEq, Int.reduceSub, Int.reduceMul, Int.reduceToNat, Int.toNat_natCast, Int.toNat_zero, Nat.zero_mul, Nat.mul_one, Bool.or_false, Bool.false_or, Bool.false_and, Bool.and_false, ↓reduceIte, Nat.le_refl, not_false_eq_true, Option.isNone_some, Option.isNone_none, call_7, call_8, call_9, call_10, call_11, call_12, call_13, call_14, call_15, call_16, call_17, call_18, call_19, call_20, call_21, call_22, call_23, call_24, call_25, call_26, ld_2, st_2, ld_3, st_3, ld_4, st_4, beql_4, bneq_4, ld_5, st_5, ld_9, st_9, len_9, ld_22, st_22, len_22, ix_22, bsl_22, ld_24, st_24, beql_24, bneq_24, ld_25, st_25, ld_28, st_28, len_28, ix_28, bsl_28, fa_30_0, fa_30_1, fa_30_2, fa_30_3, fa_30_4, ld_30, st_30, fa_32_0, fa_32_1, ld_32, st_32, ld_45, st_45, len_45, ix_45, bsl_45, fa_49_0, fa_49_1, fa_49_2, fa_49_3, ld_49, st_49, ld_50, st_50, len_50, ix_50, bsl_50, ld_53, st_53, beql_53, bneq_53, ld_56, st_56, ld_59, st_59, ld_60, st_60, al_30, al_32, bu_30_, bu_30_0_2_4, bu_49_0, bs_28_1_0, bs_50_1_0, bs_50_4_0_1_2_3, cv_3_5, cv_3_56, cv_3_59, cv_5_3, cv_5_60, cv_56_5, cv_60_56]
  refine Wp.bS (put_ok g h _ 4 (by omega) (by rw [List.length_map]; omega) 4 rfl fun v' S' g' h' x' b' => ?_)
  refine .ret (K v' S' g' ?_ x' b')
  rw [List.map_append, ← putB_eq]
  exact h'
theorem Data_bad {S : St} (g : Gd W S) (d : D) (hr : ¬ right d) : cw W 20 #[dv d] S = some (.tuple #[.slice none 0 0, .int .i64 1], (S.new (.row (dcs d) 0)).new (.row (dcs d) 0)) := by
  have hN := g.n
  have hrd := rightData_ok (g.new (.row (dcs d) 0)) d
  simp only [dv, dcs, hr, decide_false] at hrd
  rw [eq20]
  simp -implicitDefEqProofs (disch := first | assumption | omega | (simp only [new_c, new_lock, upd_c, upd_lock, relock_c, relock_lock] <;> omega) | fail) only [dv, dcs, hrd, ↓bindV_some, ↓bindS_some, ↓bindT_some, ↓bindO_some, ↓condK_true, ↓condK_false, ↓gV_tt, ↓gV_tf, ↓gV_ft, ↓gV_ff, ↓gV_undef, wV_true, wV_false, ↓wO_true, ↓wO_false, ↓wS_true, ↓wS_false, ↓wT_true, ↓wT_false, bindV_some, bindS_some, bindT_some, bindO_some, condK_true, condK_false, gV_bool, wO_true, wO_false, wS_true, wS_false, wT_true, wT_false, bin_add, bin_sub, bin_mul, bin_lss, bin_leq, bin_gtr, bin_geq, bin_eql, bin_neq, bin_and, bin_or, bin_xor, bin_andNot, un_not, un_compl32, pick_true, pick_false, bin_str_eql, bin_str_neq, ex_nth, nil_ptr, nil_func, box_agg, box_int, box_bool, box_string, box_slice, box_pointer, cell_at, cells_at, put_cons, cellOf_row, cellsOf_row, putOf_row, nth_zero, nth_succ, aggOf_some, new_self, pos1, cast0, cast1, eq_self, new_upd, new_at, new_lo, upd_lo, new_c, new_lock, upd_self, upd_c, upd_lock, relock_heap, relock_c, relock_lock, relock_new, bindO_bindS, bindO_bindO, relock_back, qS_true, unlock_some, splice_nil, splice_cons, decide_true, decide_false, beq_self_eq_true, and_self, and_true, true_and, and_false, false_and, if_true, if_false, Bool.not_true, Bool.not_false, Nat.zero_add, Nat.add_zero, List.length_cons, List.length_nil, List.drop_zero, List.drop_succ_cons, List.take_succ_cons, List.take_zero, List.set_cons_zero, List.set_cons_succ, List.all_cons, List.all_nil, storable_int, storable_bool, storable_string, storable_pointer, storable_slice, Bool.and_true, Bool.true_and, Bool.and_self, bff, bft, not_true_eq_false, Nat.reduceAdd, Nat.reduceSub, Nat.reduceMul, Nat.reduceLeDiff, Nat.reduceLT, Nat.reduceEqDiff, Int.reduceLE, Int.reduceLT, Int.reduceAdd, Int.reduceNeg, Int.reduceEq, Int.reduceSub, Int.reduceMul, Int.reduceToNat, Int.toNat_natCast, Int.toNat_zero, Nat.zero_mul, Nat.mul_one, Bool.or_false, Bool.false_or, Bool.false_and, Bool.and_false, ↓reduceIte, Nat.le_refl, not_false_eq_true, Option.isNone_some, Option.isNone_none, call_7, call_8, call_9, call_10, call_11, call_12, call_13, call_14, call_15, call_16, call_17, call_18, call_19, call_20, call_21, call_22, call_23, call_24, call_25, call_26, ld_2, st_2, ld_3, st_3, ld_4, st_4, beql_4, bneq_4, ld_5, st_5, ld_9, st_9, len_9, ld_22, st_22, len_22, ix_22, bsl_22, ld_24, st_24, beql_24, bneq_24, ld_25, st_25, ld_28, st_28, len_28, ix_28, bsl_28, fa_30_0, fa_30_1, fa_30_2, fa_30_3, fa_30_4, ld_30, st_30, fa_32_0, fa_32_1, ld_32, st_32, ld_45, st_45, len_45, ix_45, bsl_45, fa_49_0, fa_49_1, fa_49_2, fa_49_3, ld_49, st_49, ld_50, st_50, len_50, ix_50, bsl_50, ld_53, st_53, beql_53, bneq_53, ld_56, st_56, ld_59, st_59, ld_60, st_60, al_30, al_32, bu_30_, bu_30_0_2_4, bu_49_0, bs_28_1_0, bs_50_1_0, bs_50_4_0_1_2_3, cv_3_5, cv_3_56, cv_3_59, cv_5_3, cv_5_60, cv_56_5, cv_60_56]
theorem Data_good {S : St} (g : Gd W S) (d : D) (hr : right d) {Q : Value × St → Prop}
    (K : ∀ v' S', Gd W S' → Gr S' v' 1 ((dataB d).map (Value.int .u8)) → Ext [] S S' → (∀ j, j ∈ blkOf v' → S.c ≤ j) → Q (.tuple #[v', .int .i64 0], S')) : Wp (cw W 20 #[dv d] S) Q := by
  have hN := g.n
  have hr' := hr
  obtain ⟨⟨a1, a2⟩, ⟨a3, a4⟩, ⟨a5, a6⟩, ⟨a7, a8⟩, a9⟩ := hr'
  have hrd := rightData_ok (g.new (.row (dcs d) 0)) d
  simp only [dv, dcs, hr, decide_true] at hrd
  rw [eq20]
  have n1 : (((S.new (.row (dcs d) 0)).new (.row (dcs d) 0)).new (.row [.int .u8 8, .int .u8 0, .int .u8 (IntKind.u8.wrap d.c), .int .u8 (IntKind.u8.wrap d.l)] 0)).heap S.c = .row (dcs d) 0 := by
    rw [new_ne _ (by simp only [new_c]; omega), new_ne _ (by simp only [new_c]; omega), new_self]
  have n2 : ((S.new (.row (dcs d) 0)).new (.row (dcs d) 0)).heap S.c = .row (dcs d) 0 := by
    rw [new_ne _ (by simp only [new_c]; omega), new_self]
  simp only [dcs] at n1 n2
  simp -implicitDefEqProofs (disch := first | assumption | omega | (simp only [new_c, new_lock, upd_c, upd_lock, relock_c, relock_lock] <;> omega) | fail) only [dv, dcs, hrd, n1, n2, ↓bindV_some, ↓bindS_some, ↓bindT_some, ↓bindO_some, ↓condK_true, ↓condK_false, ↓gV_tt, ↓gV_tf, ↓gV_ft, ↓gV_ff, ↓gV_undef, wV_true, wV_false, ↓wO_true, ↓wO_false, ↓wS_true, ↓wS_false, ↓wT_true, ↓wT_false, bindV_some, bindS_some, bindT_some, bindO_some, condK_true, condK_false, gV_bool, wO_true, wO_false, wS_true, wS_false, wT_true, wT_false, bin_add, bin_sub, bin_mul, bin_lss, bin_leq, bin_gtr, bin_geq, bin_eql, bin_neq, bin_and, bin_or, bin_xor, bin_andNot, un_not, un_compl32, pick_true, pick_false, bin_str_eql, bin_str_neq, ex_nth, nil_ptr, nil_func, box_agg, box_int, box_bool, box_string, box_slice, box_pointer, cell_at, cells_at, put_cons, cellOf_row, cellsOf_row, putOf_row, nth_zero, nth_succ, aggOf_some, new_self, pos1, cast0, cast1, eq_self, new_upd, new_at, new_lo, upd_lo, new_c, new_lock, upd_self, upd_c, upd_lock, relock_heap, relock_c, relock_lock, relock_new, bindO_bindS, bindO_bindO, relock_back, qS_true, unlock_some, splice_nil, splice_cons, decide_true, decide_false, beq_self_eq_true, and_self, and_true, true_and, and_false, false_and, if_true, if_false, Bool.not_true, Bool.not_false, Nat.zero_add, Nat.add_zero, List.length_cons, List.length_nil, List.drop_zero, List.drop_succ_cons, List.take_succ_cons, List.take_zero, List.set_cons_zero, List.set_cons_succ, List.all_cons, List.all_nil, storable_int, storable_bool, storable_string, storable_pointer, storable_slice, Bool.and_true, Bool.true_and, Bool.and_self, bff, bft, not_true_eq_false, Nat.reduceAdd, Nat.reduceSub, Nat.reduceMul, Nat.reduceLeDiff, Nat.reduceLT, Nat.reduceEqDiff, Int.reduceLE, Int.reduceLT, Int.reduceAdd, Int.reduceNeg, Int.reduceEq, Int.reduceSub, Int.reduceMul, Int.reduceToNat, Int.toNat_natCast, Int.toNat_zero, Nat.zero_mul, Nat.mul_one, Bool.or_false, Bool.false_or, Bool.false_and, Bool.and_false, ↓reduceIte, Nat.le_refl, not_false_eq_true, Option.isNone_some, Option.isNone_none, call_7, call_8, call_9, call_10, call_11, call_12, call_13, call_14, call_15, call_16, call_17, call_18, call_19, call_20, call_21, call_22, call_23, call_24, call_25, call_26, ld_2, st_2, ld_3, st_3, ld_4, st_4, beql_4, bneq_4, ld_5, st_5, ld_9, st_9, len_9, ld_22, st_22, len_22, ix_22, bsl_22, ld_24, st_24, beql_24, bneq_24, ld_25, st_25, ld_28, st_28, len_28, ix_28, bsl_28, fa_30_0, fa_30_1, fa_30_2, fa_30_3, fa_30_4, ld_30, st_30, fa_32_0, fa_32_1, ld_32, st_32, ld_45, st_45, len_45, ix_45, bsl_45, fa_49_0, fa_49_1, fa_49_2, fa_49_3, ld_49, st_49, ld_50, st_50, len_50, ix_50, bsl_50, ld_53, st_53, beql_53, bneq_53, ld_56, st_56, ld_59, st_59, ld_60, st_60, al_30, al_32, bu_30_, bu_30_0_2_4, bu_49_0, bs_28_1_0, bs_50_1_0, bs_50_4_0_1_2_3, cv_3_5, cv_3_56, cv_3_59, cv_5_3, cv_5_60, cv_56_5, cv_60_56]
  have g3 := ((g.new (.row (dcs d) 0)).new (.row (dcs d) 0)).new (.row [.int .u8 8, .int .u8 0, .int .u8 (IntKind.u8.wrap d.c), .int .u8 (IntKind.u8.wrap d.l)] 0)
  have hl : S.lock ≤ S.c := g.ok.1
  generalize hS3 : ((S.new (.row (dcs d) 0)).new (.row (dcs d) 0)).new (.row [.int .u8 8, .int .u8 0, .int .u8 (IntKind.u8.wrap d.c), .int .u8 (IntKind.u8.wrap d.l)] 0) = S3 at g3 n1
  simp only [dcs] at hS3
  rw [hS3]
  rw [hS3] at n1
  have c3 : S3.c = S.c + 3 := by rw [← hS3]; rfl
  have l3 : S3.lock = S.lock := by rw [← hS3]; rfl
  have x3 : Ext [] S S3 := by
    rw [← hS3]
    exact (Ext.new g.ok _).then ((Ext.new (g.new _).ok _).then (Ext.new ((g.new _).new _).ok _))
  have h3 : Gr S3 (.slice (some ⟨S.c + 1 + 1, 0, none⟩) 4 4) 1 (([8, 0, IntKind.u8.wrap d.c, IntKind.u8.wrap d.l] : List Int).map (Value.int .u8)) :=
    .inr ⟨S.c + 1 + 1, 4, rfl, by omega, by rw [← hS3]; exact new_at _ (by simp) (by simp), rfl, by omega⟩
  refine Wp.bS (put_ok g3 h3 _ 4 (by omega) (by simp) 4 rfl fun v4 S4 g4 h4 x4 b4 => ?_)
  have m4 : S4.heap S.c = .row (dcs d) 0 := by rw [x4.same _ (by omega) (by simp [blkOf]; omega)]; exact n1
  have c4 := x4.c
  simp only [dcs] at m4
  rw [putB_eq, ← List.map_append] at h4
  simp -implicitDefEqProofs (disch := first | assumption | omega | (simp only [new_c, new_lock, upd_c, upd_lock, relock_c, relock_lock] <;> omega) | fail) only [m4, ↓bindV_some, ↓bindS_some, ↓bindT_some, ↓bindO_some, ↓condK_true, ↓condK_false, ↓gV_tt, ↓gV_tf, ↓gV_ft, ↓gV_ff, ↓gV_undef, wV_true, wV_false, ↓wO_true, ↓wO_false, ↓wS_true, ↓wS_false, ↓wT_true, ↓wT_false, bindV_some, bindS_some, bindT_some, bindO_some, condK_true, condK_false, gV_bool, wO_true, wO_false, wS_true, wS_false, wT_true, wT_false, bin_add, bin_sub, bin_mul, bin_lss, bin_leq, bin_gtr, bin_geq, bin_eql, bin_neq, bin_and, bin_or, bin_xor, bin_andNot, un_not, un_compl32, pick_true, pick_false, bin_str_eql, bin_str_neq, ex_nth, nil_ptr, nil_func, box_agg, box_int, box_bool, box_string, box_slice, box_pointer, cell_at, cells_at, put_cons, cellOf_row, cellsOf_row, putOf_row, nth_zero, nth_succ, aggOf_some, new_self, pos1, cast0, cast1, eq_self, new_upd, new_at, new_lo, upd_lo, new_c, new_lock, upd_self, upd_c, upd_lock, relock_heap, relock_c, relock_lock, relock_new, bindO_bindS, bindO_bindO, relock_back, qS_true, unlock_some, splice_nil, splice_cons, decide_true, decide_false, beq_self_eq_true, and_self, and_true, true_and, and_false, false_and, if_true, if_false, Bool.not_true, Bool.not_false, Nat.zero_add, Nat.add_zero, List.length_cons, List.length_nil, List.drop_zero, List.drop_succ_cons, List.take_succ_cons, List.take_zero, List.set_cons_zero, List.set_cons_succ, List.all_cons, List.all_nil, storable_int, storable_bool, storable_string, storable_pointer, storable_slice, Bool.and_true, Bool.true_and, Bool.and_self, bff, bft, not_true_eq_false, Nat.reduceAdd, Nat.reduceSub, Nat.reduceMul, Nat.reduceLeDiff, Nat.reduceLT, Nat.reduceEqDiff, Int.reduceLE, Int.reduceLT, Int.reduceAdd, Int.reduceNeg, Int.reduceEq, Int.reduceSub, Int.reduceMul, Int.reduceToNat, Int.toNat_natCast, Int.toNat_zero, Nat.zero_mul, Nat.mul_one, Bool.or_false, Bool.false_or, Bool.false_and, Bool.and_false, ↓reduceIte, Nat.le_refl, not_false_eq_true, Option.isNone_some, Option.isNone_none, call_7, call_8, call_9, call_10, call_11, call_12, call_13, call_14, call_15, call_16, call_17, call_18, call_19, call_20, call_21, call_22, call_23, call_24, call_25, call_26, ld_2, st_2, ld_3, st_3, ld_4, st_4, beql_4, bneq_4, ld_5, st_5, ld_9, st_9, len_9, ld_22, st_22, len_22, ix_22, bsl_22, ld_24, st_24, beql_24, bneq_24, ld_25, st_25, ld_28, st_28, len_28, ix_28, bsl_28, fa_30_0, fa_30_1, fa_30_2, fa_30_3, fa_30_4, ld_30, st_30, fa_32_0, fa_32_1, ld_32, st_32, ld_45, st_45, len_45, ix_45, bsl_45, fa_49_0, fa_49_1, fa_49_2, fa_49_3, ld_49, st_49, ld_50, st_50, len_50, ix_50, bsl_50, ld_53, st_53, beql_53, bneq_53, ld_56, st_56, ld_59, st_59, ld_60, st_60, al_30, al_32, bu_30_, bu_30_0_2_4, bu_49_0, bs_28_1_0, bs_50_1_0, bs_50_4_0_1_2_3, cv_3_5, cv_3_56, cv_3_59, cv_5_3, cv_5_60, cv_56_5, cv_60_56]
  refine Wp.bS (put_ok g4 h4 _ 2 (by omega) (by simp [putI_len]) 2 rfl fun v5 S5 g5 h5 x5 b5 => ?_)
  have m5 : S5.heap S.c = .row (dcs d) 0 := by
    rw [x5.same _ (by omega) (fun hh => ?_)]
    · exact m4
    · rcases b4 _ hh with h | h
      · simp [blkOf] at h; omega
      · omega
  have c5 := x5.c
  simp only [dcs] at m5
  rw [putB_eq, ← List.map_append] at h5
  simp -implicitDefEqProofs (disch := first | assumption | omega | (simp only [new_c, new_lock, upd_c, upd_lock, relock_c, relock_lock] <;> omega) | fail) only [m5, ↓bindV_some, ↓bindS_some, ↓bindT_some, ↓bindO_some, ↓condK_true, ↓condK_false, ↓gV_tt, ↓gV_tf, ↓gV_ft, ↓gV_ff, ↓gV_undef, wV_true, wV_false, ↓wO_true, ↓wO_false, ↓wS_true, ↓wS_false, ↓wT_true, ↓wT_false, bindV_some, bindS_some, bindT_some, bindO_some, condK_true, condK_false, gV_bool, wO_true, wO_false, wS_true, wS_false, wT_true, wT_false, bin_add, bin_sub, bin_mul, bin_lss, bin_leq, bin_gtr, bin_geq, bin_eql, bin_neq, bin_and, bin_or, bin_xor, bin_andNot, un_not, un_compl32, pick_true, pick_false, bin_str_eql, bin_str_neq, ex_nth, nil_ptr, nil_func, box_agg, box_int, box_bool, box_string, box_slice, box_pointer, cell_at, cells_at, put_cons, cellOf_row, cellsOf_row, putOf_row, nth_zero, nth_succ, aggOf_some, new_self, pos1, cast0, cast1, eq_self, new_upd, new_at, new_lo, upd_lo, new_c, new_lock, upd_self, upd_c, upd_lock, relock_heap, relock_c, relock_lock, relock_new, bindO_bindS, bindO_bindO, relock_back, qS_true, unlock_some, splice_nil, splice_cons, decide_true, decide_false, beq_self_eq_true, and_self, and_true, true_and, and_false, false_and, if_true, if_false, Bool.not_true, Bool.not_false, Nat.zero_add, Nat.add_zero, List.length_cons, List.length_nil, List.drop_zero, List.drop_succ_cons, List.take_succ_cons, List.take_zero, List.set_cons_zero, List.set_cons_succ, List.all_cons, List.all_nil, storable_int, storable_bool, storable_string, storable_pointer, storable_slice, Bool.and_true, Bool.true_and, Bool.and_self, bff, bft, not_true_eq_false, Nat.reduceAdd, Nat.reduceSub, Nat.reduceMul, Nat.reduceLeDiff, Nat.reduceLT, Nat.reduceEqDiff, Int.reduceLE, Int.reduceLT, Int.reduceAdd, Int.reduceNeg, Int.reduceEq, Int.reduceSub, Int.reduceMul, Int.reduceToNat, Int.toNat_natCast, Int.toNat_zero, Nat.zero_mul, Nat.mul_one, Bool.or_false, Bool.false_or, Bool.false_and, Bool.and_false, ↓reduceIte, Nat.le_refl, not_false_eq_true, Option.isNone_some, Option.isNone_none, call_7, call_8, call_9, call_10, call_11, call_12, call_13, call_14, call_15, call_16, call_17, call_18, call_19, call_20, call_21, call_22, call_23, call_24, call_25, call_26, ld_2, st_2, ld_3, st_3, ld_4, st_4, beql_4, bneq_4, ld_5, st_5, ld_9, st_9, len_9, ld_22, st_22, len_22, ix_22, bsl_22, ld_24, st_24, beql_24, bneq_24, ld_25, st_25, ld_28, st_28, len_28, ix_28, bsl_28, fa_30_0, fa_30_1, fa_30_2, fa_30_3, fa_30_4, ld_30, st_30, fa_32_0, fa_32_1, ld_32, st_32, ld_45, st_45, len_45, ix_45, bsl_45, fa_49_0, fa_49_1, fa_49_2, fa_49_3, ld_49, st_49, ld_50, st_50, len_50, ix_50, bsl_50, ld_53, st_53, beql_53, bneq_53, ld_56, st_56, ld_59, st_59, ld_60, st_60, al_30, al_32, bu_30_, bu_30_0_2_4, bu_49_0, bs_28_1_0, bs_50_1_0, bs_50_4_0_1_2_3, cv_3_5, cv_3_56, cv_3_59, cv_5_3, cv_5_60, cv_56_5, cv_60_56]
  refine Wp.append (P := p) g5 elBytes h5 (src_str Try.underlying9) (new := d.s.data.toList.map fun b => .int .u8 b.toNat) (by rw [List.length_map, Nat.mul_one]; rfl) (by rw [strI_map]; exact bytes_st _) (len := 10) (by simp [putI_len]) (by omega) fun v6 S6 g6 h6 x6 b6 => ?_
  have b5' : ∀ j, j ∈ blkOf v5 → S.c + 2 ≤ j := fun j hj => by
    rcases b5 j hj with h | h
    · rcases b4 j h with h | h
      · simp [blkOf] at h; omega
      · omega
    · omega
  have b6' : ∀ j, j ∈ blkOf v6 → S.c + 2 ≤ j := fun j hj => by
    rcases b6 j hj with h | h
    · exact b5' j h
    · omega
  have m6 : S6.heap S.c = .row (dcs d) 0 := by
    rw [x6.same _ (by omega) (fun hh => by have := b5' _ hh; omega)]
    exact m5
  have c6 := x6.c
  simp only [dcs] at m6
  rw [strI_map, ← List.map_append] at h6
  obtain ⟨a6, k6, f6⟩ := h6.form (n := 10 + d.s.size) (by omega) (by simp [putI_len, strI_len]; omega)
  have e1 : IntKind.i64.wrap (d.z - 4) = d.z - 4 := wrap64 (by omega) (by omega)
  have e2 : IntKind.i64.wrap (d.z - 4 - ((10 + d.s.size : Nat) : Int)) = d.z - 4 - (10 + d.s.size) := (wrap64 (by omega) (by omega)).trans (by omega)
  rw [f6] at h6 b6'
  simp -implicitDefEqProofs (disch := first | assumption | omega | (simp only [new_c, new_lock, upd_c, upd_lock, relock_c, relock_lock] <;> omega) | fail) only [m6, f6, e1, e2, ↓bindV_some, ↓bindS_some, ↓bindT_some, ↓bindO_some, ↓condK_true, ↓condK_false, ↓gV_tt, ↓gV_tf, ↓gV_ft, ↓gV_ff, ↓gV_undef, wV_true, wV_false, ↓wO_true, ↓wO_false, ↓wS_true, ↓wS_false, ↓wT_true, ↓wT_false, bindV_some, bindS_some, bindT_some, bindO_some, condK_true, condK_false, gV_bool, wO_true, wO_false, wS_true, wS_false, wT_true, wT_false, bin_add, bin_sub, bin_mul, bin_lss, bin_leq, bin_gtr, bin_geq, bin_eql, bin_neq, bin_and, bin_or, bin_xor, bin_andNot, un_not, un_compl32, pick_true, pick_false, bin_str_eql, bin_str_neq, ex_nth, nil_ptr, nil_func, box_agg, box_int, box_bool, box_string, box_slice, box_pointer, cell_at, cells_at, put_cons, cellOf_row, cellsOf_row, putOf_row, nth_zero, nth_succ, aggOf_some, new_self, pos1, cast0, cast1, eq_self, new_upd, new_at, new_lo, upd_lo, new_c, new_lock, upd_self, upd_c, upd_lock, relock_heap, relock_c, relock_lock, relock_new, bindO_bindS, bindO_bindO, relock_back, qS_true, unlock_some, splice_nil, splice_cons, decide_true, decide_false, beq_self_eq_true, and_self, and_true, true_and, and_false, false_and, if_true, if_false, Bool.not_true, Bool.not_false, Nat.zero_add, Nat.add_zero, List.length_cons, List.length_nil, List.drop_zero, List.drop_succ_cons, List.take_succ_cons, List.take_zero, List.set_cons_zero, List.set_cons_succ, List.all_cons, List.all_nil, storable_int, storable_bool, storable_string, storable_pointer, storable_slice, Bool.and_true, Bool.true_and, Bool.and_self, bff, bft, not_true_eq_false, Nat.reduceAdd, Nat.reduceSub, Nat.reduceMul, Nat.reduceLeDiff, Nat.reduceLT, Nat.reduceEqDiff, Int.reduceLE, Int.reduceLT, Int.reduceAdd, Int.reduceNeg, Int.reduceEq, Int.reduceSub, Int.reduceMul, Int.reduceToNat, Int.toNat_natCast, Int.toNat_zero, Nat.zero_mul, Nat.mul_one, Bool.or_false, Bool.false_or, Bool.false_and, Bool.and_false, ↓reduceIte, Nat.le_refl, not_false_eq_true, Option.isNone_some, Option.isNone_none, call_7, call_8, call_9, call_10, call_11, call_12, call_13, call_14, call_15, call_16, call_17, call_18, call_19, call_20, call_21, call_22, call_23, call_24, call_25, call_26, ld_2, st_2, ld_3, st_3, ld_4, st_4, beql_4, bneq_4, ld_5, st_5, ld_9, st_9, len_9, ld_22, st_22, len_22, ix_22, bsl_22, ld_24, st_24, beql_24, bneq_24, ld_25, st_25, ld_28, st_28, len_28, ix_28, bsl_28, fa_30_0, fa_30_1, fa_30_2, fa_30_3, fa_30_4, ld_30, st_30, fa_32_0, fa_32_1, ld_32, st_32, ld_45, st_45, len_45, ix_45, bsl_45, fa_49_0, fa_49_1, fa_49_2, fa_49_3, ld_49, st_49, ld_50, st_50, len_50, ix_50, bsl_50, ld_53, st_53, beql_53, bneq_53, ld_56, st_56, ld_59, st_59, ld_60, st_60, al_30, al_32, bu_30_, bu_30_0_2_4, bu_49_0, bs_28_1_0, bs_50_1_0, bs_50_4_0_1_2_3, cv_3_5, cv_3_56, cv_3_59, cv_5_3, cv_5_60, cv_56_5, cv_60_56]
  refine Wp.append (P := p) g6 elBytes h6 (src_zeros Try.underlying3 (by omega) (by omega)) (new := zeros (d.z - 4 - (10 + d.s.size)).toNat (zeroOf p 5).cells.toList) (by rw [zeros_eq, List.length_map, List.length_replicate, Nat.mul_one]) (by rw [zeros_eq]; exact bytes_st _) (len := 10 + d.s.size) (by simp [putI_len, strI_len]; omega) (by omega) fun v7 S7 g7 h7 x7 b7 => ?_
  rw [zeros_eq, ← List.map_append] at h7
  have c7 := x7.c
  have hh : (headB d).length = (d.z - 4).toNat := by
    unfold headB
    simp only [List.length_append, List.length_cons, List.length_nil, putI_len, strI_len, List.length_replicate]; omega
  refine Wp.bS (sealed_ok g7 (bs := headB d) h7 (by omega) (by omega) fun v8 S8 g8 h8 x8 b8 => ?_)
  refine .ret (K v8 S8 g8 h8 ?_ fun j hj => ?_)
  · have far : ∀ j, j ∈ blkOf v7 → S.c ≤ j := fun j hj => by
      rcases b7 j hj with h | h
      · have := b6' j h; omega
      · omega
    refine (((((x3.trans x4 ?_).trans x5 ?_).trans x6 ?_).trans x7 ?_).trans x8 ?_)
    · intro j hj hc; simp [blkOf] at hj; omega
    · intro j hj hc
      rcases b4 j hj with h | h
      · simp [blkOf] at h; omega
      · omega
    · intro j hj hc; have := b5' j hj; omega
    · intro j hj hc; have := b6' j hj; omega
    · intro j hj hc; have := far j hj; omega
  · rcases b8 j hj with h | h
    · rcases b7 j h with h | h
      · have := b6' j h; omega
      · omega
    · omega
end
end Go.Proofs.Ytjfmapoangigoaa.F
