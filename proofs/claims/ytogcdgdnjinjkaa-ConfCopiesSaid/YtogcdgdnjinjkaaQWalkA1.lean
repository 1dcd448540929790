/- What the functions of this chapter compute, in memories that are closed; conditions stand in each theorem. Laid together by a program for this claim. -/
import Derived.Test.YtogcdgdnjinjkaaQWalkA0
import Derived.Test.YtogcdgdnjinjkaaQEngine1
set_option linter.unusedVariables false
set_option linter.unusedSimpArgs false
section
namespace Go.Proofs.Ytogcdgdnjinjkaa.F
open Go Go.Proofs.Ytogcdgdnjinjkaa.E
set_option linter.unusedVariables false
set_option linter.unusedSimpArgs false
section
variable {W : World} {S : St}
theorem plain_of (c : Cfg) (a : En) (hs : c.spans = true) (hh : 1 ≤ c.hosts ∧ c.hosts ≤ 6) (hr : badRoute c a = false) (hp : -1125899906842624 ≤ a.ph ∧ a.ph ≤ 1125899906842624) : plain c a = true := by
  unfold badRoute route at hr
  simp only [Bool.not_eq_false', decide_eq_true_eq] at hr
  unfold plain route inB
  rw [hs]
  simp only [Bool.true_and, Bool.and_eq_true, decide_eq_true_eq]
  refine ⟨⟨hr.1, by omega, hr.2.2.1, ?_, hr.2.2.2.2.1, hr.2.2.2.2.2⟩, hp⟩
  have h4 := hr.2.2.2.1
  obtain ⟨h, e⟩ := Int.eq_ofNat_of_zero_le (show 0 ≤ c.hosts by omega)
  rw [e, Int.toNat_natCast] at h4
  have hle : 2 ^ h ≤ 2 ^ 6 := Nat.pow_le_pow_right (by omega) (by omega)
  have hp0 : 0 < 2 ^ h := Nat.pow_pos (by omega)
  rw [Nat.div_eq_zero_iff] at h4
  rw [show Int.toNat 6 = 6 from rfl, Nat.div_eq_zero_iff]
  omega
theorem late_val (c : Cfg) (a : En) (hs : c.spans = true) (hh : 1 ≤ c.hosts ∧ c.hosts ≤ 6) (hr : badRoute c a = false) (hp : -1125899906842624 ≤ a.ph ∧ a.ph ≤ 1125899906842624) : late c a = a.ph + tm a.sz + c.delay + 2 * c.prec + tm a.sz + c.delay + c.prec := by
  have hpl := plain_of c a hs hh hr hp
  unfold late forward
  rw [if_pos hpl, if_pos hpl]
set_option maxRecDepth 100000 in
set_option maxHeartbeats 1000000 in
theorem i7 (g : Gd W S) (c : Cfg) (q : Pl) (hq : vlt S.c (cvl c q) = true) (hs : c.spans = true) {bc be : Nat} (hb : S.heap bc = .row (ccs c q) 0) (hW : W.heap.size ≤ bc) (a b : En) (he : S.heap be = (.row [.int .i64 a.f, .int .u32 (a.t : Int), .int .i64 a.ph, .int .i64 a.sz] 0)) (hWe : W.heap.size ≤ be) (bl ol : Nat) (eA : q.ae = some ⟨bl, ol, none⟩) (i j : Nat) (hl : i ≤ c.entries.length) (hn : c.entries.length ≤ 2 ^ 60) (hj : j < i) (e5 : S.cells W ⟨bl, ol + j * 4, none⟩ 4 = some [.int .i64 b.f, .int .u32 (b.t : Int), .int .i64 b.ph, .int .i64 b.sz]) (hat : a.t < 4294967296) (hbt : b.t < 4294967296) (ra : -1125899906842624 ≤ a.ph ∧ a.ph ≤ 1125899906842624) (rb : -1125899906842624 ≤ b.ph ∧ b.ph ≤ 1125899906842624) (y0 y3 y11 y12 y13 y14 y15 y16 y17 y18 y19 y20 y21 y22 y23 y24 y25 y26 y27 y28 y29 y30 y31 y32 y33 y34 y35 y36 y37 y38 y39 y40 y41 y42 y43 y44 y45 y46 y47 y48 y49 y50 y51 y52 y53 y54 y55 y56 y57 y58 y59 y60 y61 y62 y63 y64 y65 y66 y67 y68 y69 : Value) :
    bindO (l37_11010010011110 W y0 (.int .i64 7) (.pointer (some ⟨bc, 0, none⟩)) y3 (.int .i64 (i : Int)) (.pointer (some ⟨be, 0, none⟩)) (.int .i64 (j : Int)) y11 y12 y13 y14 y15 y16 y17 y18 y19 y20 y21 y22 y23 y24 y25 y26 y27 y28 y29 y30 y31 y32 y33 y34 y35 y36 y37 y38 y39 y40 y41 y42 y43 y44 y45 y46 y47 y48 y49 y50 y51 y52 y53 y54 y55 y56 y57 y58 y59 y60 y61 y62 y63 y64 y65 y66 y67 y68 y69 S) (fun e A S => bindO (rk W c37_11010 [1, 0, 0, 1, 1, 1, 1, 0] e A S) (kc W c37 [1, 1, 0, 1, 0] f37)) = condB (a.f = b.f ∧ meets a.ph (tm a.sz) b.ph (tm b.sz) = true) (some (.bool true, S.new (.row [.int .i64 b.f, .int .u32 (b.t : Int), .int .i64 b.ph, .int .i64 b.sz] 0))) (bindO (l37_11010010011110 W y0 (.int .i64 7) (.pointer (some ⟨bc, 0, none⟩)) y3 (.int .i64 (i : Int)) (.pointer (some ⟨be, 0, none⟩)) (.int .i64 ((j + 1 : Nat) : Int)) y11 y12 y13 y14 y15 y16 y17 y18 y19 y20 y21 y22 y23 y24 y25 y26 y27 y28 y29 y30 y31 y32 y33 y34 y35 y36 y37 y38 y39 y40 y41 y42 y43 y44 y45 y46 y47 y48 y49 y50 y51 y52 y53 y54 y55 y56 y57 y58 y59 y60 y61 y62 y63 y64 y65 y66 y67 y68 y69 (S.new (.row [.int .i64 b.f, .int .u32 (b.t : Int), .int .i64 b.ph, .int .i64 b.sz] 0))) (fun e A S => bindO (rk W c37_11010 [1, 0, 0, 1, 1, 1, 1, 0] e A S) (kc W c37 [1, 1, 0, 1, 0] f37))) := by
  have hlt := row_lt g.ok hb
  have hlte := row_lt g.ok he
  have ta := tm_rng a.sz
  have tb := tm_rng b.sz
  have hx : (j : Int) < (i : Int) := by omega
  have hxl : (j : Int) < (c.entries.length : Int) := by omega
  have e2 : IntKind.i64.wrap ((j : Int) + 1) = ((j + 1 : Nat) : Int) := by rw [wrap64 (by omega) (by omega)]; omega
  have g1 : Gd W (S.new (.row [.int .i64 b.f, .int .u32 (b.t : Int), .int .i64 b.ph, .int .i64 b.sz] 0)) := g.new rfl
  have hb1 : (S.new (.row [.int .i64 b.f, .int .u32 (b.t : Int), .int .i64 b.ph, .int .i64 b.sz] 0)).heap bc = S.heap bc := new_lo _ hlt
  have he1 : (S.new (.row [.int .i64 b.f, .int .u32 (b.t : Int), .int .i64 b.ph, .int .i64 b.sz] 0)).heap be = S.heap be := new_lo _ hlte
  have et := fun (U : St) (gU : Gd W U) (z : Int) => rtime_eq gU z
  have em := fun (U : St) (gU : Gd W U) => rmeet_eq gU a.ph (tm a.sz) b.ph (tm b.sz) (by omega) (by omega)
  have hN := g.n; have hL : S.lock ≤ S.c := g.ok.1
  rw [r37_11010010011110]
  simp -implicitDefEqProofs (maxSteps := 1000000) (disch := (refine id ?_; first | with_reducible assumption | ((first | fail); (first | (simp +arith only [new_c, new_lock, upd_c, upd_lock, relock_c, relock_lock]; done) | (refine Nat.le_trans hN ?_; simp +arith only [new_c, new_lock, upd_c, upd_lock, relock_c, relock_lock]; done) | (refine Nat.le_trans hL ?_; simp +arith only [new_c, new_lock, upd_c, upd_lock, relock_c, relock_lock]; done) | fail)) | ((fail_if_success (with_reducible apply isT_of)); (fail_if_success (first | fail)); first | (simp +arith only [new_c, new_lock, upd_c, upd_lock, relock_c, relock_lock]; done) | (refine Nat.le_trans hN ?_; simp +arith only [new_c, new_lock, upd_c, upd_lock, relock_c, relock_lock]; done) | (refine Nat.le_trans hL ?_; simp +arith only [new_c, new_lock, upd_c, upd_lock, relock_c, relock_lock]; done) | omega | (with_reducible refine Low.new ?_ _; (repeat (first | with_reducible assumption | refine Low.upd ?_ (by (first | omega )) _)); done) | (with_reducible refine Low.upd ?_ (by (first | omega )) _; (repeat (first | with_reducible assumption | refine Low.upd ?_ (by (first | omega )) _)); done) | (with_reducible refine Gd.new ?_ (by (simp only [objLt_row, objLt_dead, List.all_cons, List.all_nil, vlt1_int, vlt1_bool, vlt1_string, vlt1_nilp, vlt1_nils, vlt1_ptr, vlt1_sl, vlt1_func, vlt0_ptr, vlt0_sl, vlt0_int, vlt0_bool, vlt0_string, vlt0_nilp, vlt0_nils, vlt_int, vlt_bool, vlt_string, vlt_nilp, vlt_nils, vlt_ptr, vlt_sl, vlt_agg, vlt_func, List.toArray, Bool.and_true, Bool.true_and, Bool.and_self, Bool.and_eq_true, decide_eq_true_eq, and_true, true_and, new_c, upd_c, relock_c] <;> omega)); (repeat (first | with_reducible assumption | refine Gd.upd ?_ (by (first | omega )) (by (simp only [objLt_row, objLt_dead, List.all_cons, List.all_nil, vlt1_int, vlt1_bool, vlt1_string, vlt1_nilp, vlt1_nils, vlt1_ptr, vlt1_sl, vlt1_func, vlt0_ptr, vlt0_sl, vlt0_int, vlt0_bool, vlt0_string, vlt0_nilp, vlt0_nils, vlt_int, vlt_bool, vlt_string, vlt_nilp, vlt_nils, vlt_ptr, vlt_sl, vlt_agg, vlt_func, List.toArray, Bool.and_true, Bool.true_and, Bool.and_self, Bool.and_eq_true, decide_eq_true_eq, and_true, true_and, new_c, upd_c, relock_c] <;> omega)) )); done) | (with_reducible refine Gd.relock2 ?_ ?_; rotate_left; simp only [new_c, upd_c, relock_c]; (repeat (first | with_reducible assumption | refine Gd.upd ?_ (by (first | omega )) (by (simp only [objLt_row, objLt_dead, List.all_cons, List.all_nil, vlt1_int, vlt1_bool, vlt1_string, vlt1_nilp, vlt1_nils, vlt1_ptr, vlt1_sl, vlt1_func, vlt0_ptr, vlt0_sl, vlt0_int, vlt0_bool, vlt0_string, vlt0_nilp, vlt0_nils, vlt_int, vlt_bool, vlt_string, vlt_nilp, vlt_nils, vlt_ptr, vlt_sl, vlt_agg, vlt_func, List.toArray, Bool.and_true, Bool.true_and, Bool.and_self, Bool.and_eq_true, decide_eq_true_eq, and_true, true_and, new_c, upd_c, relock_c] <;> omega)) )); done) | (with_reducible refine nat_eq_id ?_; first | fail) | (simp (disch := (simp only [new_c, upd_c, relock_c] <;> omega)) only [new_at, new_lo, upd_self, upd_lo, relock_heap]; done) | (with_reducible refine Rd.low (by with_reducible assumption) ?_; (repeat (first | with_reducible assumption | refine Low.upd ?_ (by (first | omega )) _)); done) | ((first | fail); simp only [IsT, decide_eq_true_eq, Bool.and_eq_true, Bool.or_eq_true, Bool.not_eq_true', decide_eq_false_iff_not] at *; omega) | fail))) only [he1, hb, he, hx, e2, eA, e5, et, em, k37_11010010011110_ret, k37_11010_ret, ↓bindV_some, ↓bindS_some, ↓bindT_some, ↓bindO_some, ↓condB_true, ↓condB_false, wV_true, wV_false, ↓wO_true, ↓wO_false, ↓wS_false, bindV_some, bindS_some, bindT_some, bindO_some, ↓gV_t, ↓condK_B, wO_true, wO_false, wS_false, wV_pos, wO_val, wS_val, pick_and, pick_bool, bindO_B, bin_add, bin_lss, bin_gtr, bin_eql, pick_false, cell_at, put_cons, cellOf_row, putOf_row, nth_zero, nth_succ, aggOf_some, eq_self, new_upd, new_at, new_c, new_lock, relock2, relock_id, qS_true, unlock_some, splice_nil, splice_cons, decide_true, decide_false, Nat.zero_add, List.length_cons, List.length_nil, List.set_cons_zero, List.set_cons_succ, List.all_cons, List.all_nil, storable_int, Bool.and_self, Nat.reduceAdd, Int.reduceLT, Int.reduceEq, Int.toNat_natCast, ↓reduceIte, Nat.le_refl, decide_eq_true_eq, Bool.and_eq_true, reduceCtorEq, call_39, call_66, ld_2, ld_3, ld_23, ix_23, fa_26_6, fa_32_0, fa_32_2, fa_32_3, ld_32, st_32, al_32]
set_option maxRecDepth 100000 in
set_option maxHeartbeats 1000000 in
theorem i8 (g : Gd W S) (c : Cfg) (q : Pl) (hq : vlt S.c (cvl c q) = true) (hs : c.spans = true) {bc be : Nat} (hb : S.heap bc = .row (ccs c q) 0) (hW : W.heap.size ≤ bc) (a b : En) (he : S.heap be = (.row [.int .i64 a.f, .int .u32 (a.t : Int), .int .i64 a.ph, .int .i64 a.sz] 0)) (hWe : W.heap.size ≤ be) (bl ol : Nat) (eA : q.ae = some ⟨bl, ol, none⟩) (i j : Nat) (hl : i ≤ c.entries.length) (hn : c.entries.length ≤ 2 ^ 60) (hj : j < i) (e5 : S.cells W ⟨bl, ol + j * 4, none⟩ 4 = some [.int .i64 b.f, .int .u32 (b.t : Int), .int .i64 b.ph, .int .i64 b.sz]) (hat : a.t < 4294967296) (hbt : b.t < 4294967296) (ra : -1125899906842624 ≤ a.ph ∧ a.ph ≤ 1125899906842624) (rb : -1125899906842624 ≤ b.ph ∧ b.ph ≤ 1125899906842624) (y0 y3 y11 y12 y13 y14 y15 y16 y17 y18 y19 y20 y21 y22 y23 y24 y25 y26 y27 y28 y29 y30 y31 y32 y33 y34 y35 y36 y37 y38 y39 y40 y41 y42 y43 y44 y45 y46 y47 y48 y49 y50 y51 y52 y53 y54 y55 y56 y57 y58 y59 y60 y61 y62 y63 y64 y65 y66 y67 y68 y69 : Value) :
    bindO (l37_11010010011110 W y0 (.int .i64 8) (.pointer (some ⟨bc, 0, none⟩)) y3 (.int .i64 (i : Int)) (.pointer (some ⟨be, 0, none⟩)) (.int .i64 (j : Int)) y11 y12 y13 y14 y15 y16 y17 y18 y19 y20 y21 y22 y23 y24 y25 y26 y27 y28 y29 y30 y31 y32 y33 y34 y35 y36 y37 y38 y39 y40 y41 y42 y43 y44 y45 y46 y47 y48 y49 y50 y51 y52 y53 y54 y55 y56 y57 y58 y59 y60 y61 y62 y63 y64 y65 y66 y67 y68 y69 S) (fun e A S => bindO (rk W c37_11010 [1, 0, 0, 1, 1, 1, 1, 0] e A S) (kc W c37 [1, 1, 0, 1, 0] f37)) = condB (¬ (a.t &&& b.t = 0) ∧ meets (a.ph + tm a.sz + c.delay + 2 * c.prec) (tm a.sz) (b.ph + tm b.sz + c.delay + 2 * c.prec) (tm b.sz) = true) (some (.bool true, S.new (.row [.int .i64 b.f, .int .u32 (b.t : Int), .int .i64 b.ph, .int .i64 b.sz] 0))) (bindO (l37_11010010011110 W y0 (.int .i64 8) (.pointer (some ⟨bc, 0, none⟩)) y3 (.int .i64 (i : Int)) (.pointer (some ⟨be, 0, none⟩)) (.int .i64 ((j + 1 : Nat) : Int)) y11 y12 y13 y14 y15 y16 y17 y18 y19 y20 y21 y22 y23 y24 y25 y26 y27 y28 y29 y30 y31 y32 y33 y34 y35 y36 y37 y38 y39 y40 y41 y42 y43 y44 y45 y46 y47 y48 y49 y50 y51 y52 y53 y54 y55 y56 y57 y58 y59 y60 y61 y62 y63 y64 y65 y66 y67 y68 y69 (S.new (.row [.int .i64 b.f, .int .u32 (b.t : Int), .int .i64 b.ph, .int .i64 b.sz] 0))) (fun e A S => bindO (rk W c37_11010 [1, 0, 0, 1, 1, 1, 1, 0] e A S) (kc W c37 [1, 1, 0, 1, 0] f37))) := by
  have hlt := row_lt g.ok hb
  have hlte := row_lt g.ok he
  have ta := tm_rng a.sz
  have tb := tm_rng b.sz
  have hx : (j : Int) < (i : Int) := by omega
  have hxl : (j : Int) < (c.entries.length : Int) := by omega
  have e2 : IntKind.i64.wrap ((j : Int) + 1) = ((j + 1 : Nat) : Int) := by rw [wrap64 (by omega) (by omega)]; omega
  have g1 : Gd W (S.new (.row [.int .i64 b.f, .int .u32 (b.t : Int), .int .i64 b.ph, .int .i64 b.sz] 0)) := g.new rfl
  have hb1 : (S.new (.row [.int .i64 b.f, .int .u32 (b.t : Int), .int .i64 b.ph, .int .i64 b.sz] 0)).heap bc = S.heap bc := new_lo _ hlt
  have he1 : (S.new (.row [.int .i64 b.f, .int .u32 (b.t : Int), .int .i64 b.ph, .int .i64 b.sz] 0)).heap be = S.heap be := new_lo _ hlte
  have et := fun (U : St) (gU : Gd W U) (z : Int) => rtime_eq gU z
  have hs' : (1 ≤ c.cycle ∧ c.cycle ≤ 1073741824) ∧ (0 ≤ c.delay ∧ c.delay ≤ 1048576) ∧ (0 ≤ c.window ∧ c.window ≤ 1048576) ∧ (0 ≤ c.prec ∧ c.prec ≤ 1048576) := by
    unfold Cfg.spans inB at hs
    simp only [Bool.and_eq_true, decide_eq_true_eq] at hs
    omega
  have em := fun (U : St) (gU : Gd W U) => rmeet_eq gU (a.ph + tm a.sz + c.delay + 2 * c.prec) (tm a.sz) (b.ph + tm b.sz + c.delay + 2 * c.prec) (tm b.sz) (by omega) (by omega)
  have eta := fun (U : St) (gU : Gd W U) (hU : vlt U.c (cvl c q) = true) => RTimes_eq gU c q hU hs a ra
  have etb := fun (U : St) (gU : Gd W U) (hU : vlt U.c (cvl c q) = true) => RTimes_eq gU c q hU hs b rb
  have hq1 : vlt (S.c + 1) (cvl c q) = true := vlt_mono (by omega) hq
  have hand := and_nat a.t b.t hat hbt
  have h0 : (((a.t &&& b.t : Nat) : Int) = 0) = ((a.t &&& b.t) = 0) := by simp
  obtain ⟨ad, cd, ae, ce, al, cl⟩ := q
  simp only at eA
  subst eA
  have hN := g.n; have hL : S.lock ≤ S.c := g.ok.1
  rw [r37_11010010011110]
  simp -implicitDefEqProofs (maxSteps := 1000000) (disch := (refine id ?_; first | with_reducible assumption | (with_reducible refine IsT.left ?_; with_reducible assumption) | (with_reducible refine IsT.left (IsT.left ?_); with_reducible assumption) | ((first | with_reducible refine nat_lt_id ?_ | with_reducible refine nat_le_id ?_ | with_reducible refine nat_ne_id ?_); (first | (simp +arith only [new_c, new_lock, upd_c, upd_lock, relock_c, relock_lock]; done) | (simp only [new_c, new_lock, upd_c, upd_lock, relock_c, relock_lock]; with_reducible assumption) | (refine Nat.le_trans hN ?_; simp +arith only [new_c, new_lock, upd_c, upd_lock, relock_c, relock_lock]; done) | (refine Nat.le_trans hL ?_; simp +arith only [new_c, new_lock, upd_c, upd_lock, relock_c, relock_lock]; done) | (apply Nat.lt_of_lt_of_le; with_reducible assumption; simp +arith only [new_c, new_lock, upd_c, upd_lock, relock_c, relock_lock]; done) | (apply Nat.ne_of_lt; apply Nat.lt_of_lt_of_le; with_reducible assumption; simp +arith only [new_c, new_lock, upd_c, upd_lock, relock_c, relock_lock]; done) | fail)) | ((fail_if_success (with_reducible apply isT_of)); (fail_if_success (first | with_reducible refine nat_lt_id ?_ | with_reducible refine nat_le_id ?_ | with_reducible refine nat_ne_id ?_)); first | (simp +arith only [new_c, new_lock, upd_c, upd_lock, relock_c, relock_lock]; done) | (refine Nat.le_trans hN ?_; simp +arith only [new_c, new_lock, upd_c, upd_lock, relock_c, relock_lock]; done) | (refine Nat.le_trans hL ?_; simp +arith only [new_c, new_lock, upd_c, upd_lock, relock_c, relock_lock]; done) | omega | (with_reducible apply Gd.cl; with_reducible assumption) | (simp only [new_c, new_lock, upd_c, upd_lock, relock_c, relock_lock] <;> omega) | with_reducible exact Low.rfl' _ | (with_reducible refine Low.new ?_ _; (repeat (first | with_reducible exact Low.rfl' _ | with_reducible assumption | refine Low.new ?_ _ | refine Low.upd ?_ (by (first | omega | (simp only [new_c, upd_c, relock_c] <;> omega))) _)); done) | (with_reducible refine Low.upd ?_ (by (first | omega | (simp only [new_c, upd_c, relock_c] <;> omega))) _; (repeat (first | with_reducible exact Low.rfl' _ | with_reducible assumption | refine Low.new ?_ _ | refine Low.upd ?_ (by (first | omega | (simp only [new_c, upd_c, relock_c] <;> omega))) _)); done) | (with_reducible refine Gd.relock2 ?_ ?_; rotate_left; simp only [new_c, upd_c, relock_c]; (repeat (first | with_reducible assumption | refine Gd.new ?_ (by (simp only [objLt_row, objLt_dead, List.all_cons, List.all_nil, vlt1_int, vlt1_bool, vlt1_string, vlt1_nilp, vlt1_nils, vlt1_ptr, vlt1_sl, vlt1_func, vlt0_ptr, vlt0_sl, vlt0_int, vlt0_bool, vlt0_string, vlt0_nilp, vlt0_nils, vlt_int, vlt_bool, vlt_string, vlt_nilp, vlt_nils, vlt_ptr, vlt_sl, vlt_agg, vlt_func, List.toArray, Bool.and_true, Bool.true_and, Bool.and_self, Bool.and_eq_true, decide_eq_true_eq, and_true, true_and, new_c, upd_c, relock_c] <;> omega)) | refine Gd.relock ?_)); done) | (with_reducible refine nat_eq_id ?_; first | with_reducible rfl | (simp only [new_lock, upd_lock, relock_lock, new_c, upd_c, relock_c]; done)) | (simp (disch := (simp only [new_c, upd_c, relock_c] <;> omega)) only [new_at, new_lo, upd_self, upd_lo, relock_heap]; done) | (with_reducible refine Rd.low (by with_reducible assumption) ?_; (repeat (first | with_reducible exact Low.rfl' _ | with_reducible assumption | refine Low.new ?_ _ | refine Low.upd ?_ (by (first | omega | (simp only [new_c, upd_c, relock_c] <;> omega))) _)); done) | (simp only [flatR_int, flatR_bool, flatR_string, flatR_tuple, flatR_agg, flat_int, flat_bool, flat_string, flat_agg, flat0_int, flat0_bool, flat0_string, List.all_cons, List.all_nil, Bool.and_self, Bool.and_true, Bool.true_and]; done) | ((first | with_reducible refine int_lt_id ?_ | with_reducible refine int_le_id ?_); simp only [IsT, decide_eq_true_eq, Bool.and_eq_true, Bool.or_eq_true, Bool.not_eq_true', decide_eq_false_iff_not] at *; omega) | (simp only [objLt_row, objLt_dead, List.all_cons, List.all_nil, vlt1_int, vlt1_bool, vlt1_string, vlt1_nilp, vlt1_nils, vlt1_ptr, vlt1_sl, vlt1_func, vlt0_ptr, vlt0_sl, vlt0_int, vlt0_bool, vlt0_string, vlt0_nilp, vlt0_nils, vlt_int, vlt_bool, vlt_string, vlt_nilp, vlt_nils, vlt_ptr, vlt_sl, vlt_agg, vlt_func, List.toArray, Bool.and_true, Bool.true_and, Bool.and_self, Bool.and_eq_true, decide_eq_true_eq, and_true, true_and, new_c, upd_c, relock_c]; (try omega); done) | fail))) only [hb1, he1, hb, he, hx, e2, e5, et, eta, etb, em, hand, h0, k37_11010010011110_ret, k37_11010_ret, ↓bindV_some, ↓bindS_some, ↓bindT_some, ↓bindO_some, ↓condB_true, ↓condB_false, wV_true, wV_false, ↓wO_true, ↓wO_false, ↓wS_false, bindV_some, bindS_some, bindT_some, bindO_some, ↓gV_t, ↓condK_B, wO_true, wO_false, wS_false, wV_pos, wO_val, wS_val, pick_and, pick_bool, bindO_B, bin_add, bin_lss, bin_gtr, bin_eql, bin_neq, bin_and, pick_false, cell_at, cells_at, put_cons, cellOf_row, cellsOf_row, putOf_row, nth_zero, nth_succ, aggOf_some, eq_self, new_upd, new_at, new_c, new_lock, relock2, relock_id, qS_true, unlock_some, splice_nil, splice_cons, decide_true, decide_false, Nat.zero_add, List.length_cons, List.length_nil, List.drop_zero, List.take_succ_cons, List.take_zero, List.set_cons_zero, List.set_cons_succ, List.all_cons, List.all_nil, storable_int, Bool.and_self, Nat.reduceAdd, Int.reduceLT, Int.reduceEq, Int.toNat_natCast, ↓reduceIte, Nat.le_refl, Bool.not_eq_true', Bool.and_eq_true, decide_eq_false_iff_not, reduceCtorEq, call_14, call_39, call_66, ld_3, ld_23, ix_23, fa_26_6, ld_26, ld_30, fa_32_1, fa_32_3, ld_32, st_32, al_32, ixv_33_i64_2]
set_option maxRecDepth 100000 in
theorem x5 (g : Gd W S) (i j be : Nat) (hn : i ≤ 2 ^ 60) {bc : Nat} (y0 y3 y11 y12 y13 y14 y15 y16 y17 y18 y19 y20 y21 y22 y23 y24 y25 y26 y27 y28 y29 y30 y31 y32 y33 y34 y35 y36 y37 y38 y39 y40 y41 y42 y43 y44 y45 y46 y47 y48 y49 y50 y51 y52 y53 y54 y55 y56 y57 y58 y59 y60 y61 y62 y63 y64 y65 y66 y67 y68 y69 : Value) :
    bindO (l37_11010010011110 W y0 (.int .i64 5) (.pointer (some ⟨bc, 0, none⟩)) y3 (.int .i64 (i : Int)) (.pointer (some ⟨be, 0, none⟩)) (.int .i64 (j : Int)) y11 y12 y13 y14 y15 y16 y17 y18 y19 y20 y21 y22 y23 y24 y25 y26 y27 y28 y29 y30 y31 y32 y33 y34 y35 y36 y37 y38 y39 y40 y41 y42 y43 y44 y45 y46 y47 y48 y49 y50 y51 y52 y53 y54 y55 y56 y57 y58 y59 y60 y61 y62 y63 y64 y65 y66 y67 y68 y69 S) (fun e A S => bindO (rk W c37_11010 [1, 0, 0, 1, 1, 1, 1, 0] e A S) (kc W c37 [1, 1, 0, 1, 0] f37)) = bindO (l37_11010 W y0 (.int .i64 5) (.pointer (some ⟨bc, 0, none⟩)) y3 (.int .i64 ((i + 1 : Nat) : Int)) y11 y12 y13 y14 y15 y16 y17 y18 S) (kc W c37 [1, 1, 0, 1, 0] f37) := by
  have e2 : IntKind.i64.wrap ((i : Int) + 1) = ((i + 1 : Nat) : Int) := by rw [wrap64 (by omega) (by omega)]; omega
  have hN := g.n; have hL : S.lock ≤ S.c := g.ok.1
  rw [r37_11010010011110]
  by_cases hx : (j : Int) < (i : Int)
  · simp -implicitDefEqProofs (maxSteps := 1000000) (disch := (refine id ?_; first | with_reducible assumption | ((fail_if_success (with_reducible apply isT_of)); (fail_if_success (first | fail)); first | (simp +arith only [new_c, new_lock, upd_c, upd_lock, relock_c, relock_lock]; done) | (refine Nat.le_trans hN ?_; simp +arith only [new_c, new_lock, upd_c, upd_lock, relock_c, relock_lock]; done) | (refine Nat.le_trans hL ?_; simp +arith only [new_c, new_lock, upd_c, upd_lock, relock_c, relock_lock]; done) | omega | (simp (disch := (simp only [new_c, upd_c, relock_c] <;> omega)) only [new_at, new_lo, upd_self, upd_lo, relock_heap]; done) | fail))) only [hx, e2, k37_11010010011110_2, ↓bindV_some, ↓bindS_some, ↓bindO_some, ↓condB_false, wV_true, wV_false, ↓wO_true, ↓wO_false, ↓wS_false, bindV_some, bindS_some, bindO_some, ↓gV_t, wrap64, ↓condK_B, wO_true, wO_false, wS_false, pick_bool, bin_add, bin_lss, bin_gtr, bin_eql, pick_false, cell_at, eq_self, qS_true, decide_true, decide_false, Nat.zero_add, Int.reduceLT, Int.reduceEq, ↓reduceIte, reduceCtorEq, call_39, ld_3, ld_23, fa_26_6, fa_32_3, al_32]
  · simp -implicitDefEqProofs (maxSteps := 1000000) (disch := (refine id ?_; first | with_reducible assumption | ((fail_if_success (with_reducible apply isT_of)); (fail_if_success (first | fail)); first | (simp +arith only [new_c, new_lock, upd_c, upd_lock, relock_c, relock_lock]; done) | (refine Nat.le_trans hN ?_; simp +arith only [new_c, new_lock, upd_c, upd_lock, relock_c, relock_lock]; done) | (refine Nat.le_trans hL ?_; simp +arith only [new_c, new_lock, upd_c, upd_lock, relock_c, relock_lock]; done) | omega | (simp (disch := (simp only [new_c, upd_c, relock_c] <;> omega)) only [new_at, new_lo, upd_self, upd_lo, relock_heap]; done) | fail))) only [hx, e2, k37_11010010011110_2, ↓bindV_some, ↓bindS_some, ↓bindO_some, ↓condB_false, wV_false, ↓wO_false, ↓wS_false, bindV_some, bindS_some, bindO_some, ↓gV_t, ↓condK_B, wO_false, wS_false, bin_add, bin_lss, bin_eql, pick_false, cell_at, eq_self, qS_true, decide_false, Nat.zero_add, Int.reduceEq, reduceCtorEq, call_39, ld_3, ld_23, fa_26_6, fa_32_3, al_32]
set_option maxRecDepth 100000 in
theorem x6 (g : Gd W S) (i j be : Nat) (hn : i ≤ 2 ^ 60) {bc : Nat} (y0 y3 y11 y12 y13 y14 y15 y16 y17 y18 y19 y20 y21 y22 y23 y24 y25 y26 y27 y28 y29 y30 y31 y32 y33 y34 y35 y36 y37 y38 y39 y40 y41 y42 y43 y44 y45 y46 y47 y48 y49 y50 y51 y52 y53 y54 y55 y56 y57 y58 y59 y60 y61 y62 y63 y64 y65 y66 y67 y68 y69 : Value) :
    bindO (l37_11010010011110 W y0 (.int .i64 6) (.pointer (some ⟨bc, 0, none⟩)) y3 (.int .i64 (i : Int)) (.pointer (some ⟨be, 0, none⟩)) (.int .i64 (j : Int)) y11 y12 y13 y14 y15 y16 y17 y18 y19 y20 y21 y22 y23 y24 y25 y26 y27 y28 y29 y30 y31 y32 y33 y34 y35 y36 y37 y38 y39 y40 y41 y42 y43 y44 y45 y46 y47 y48 y49 y50 y51 y52 y53 y54 y55 y56 y57 y58 y59 y60 y61 y62 y63 y64 y65 y66 y67 y68 y69 S) (fun e A S => bindO (rk W c37_11010 [1, 0, 0, 1, 1, 1, 1, 0] e A S) (kc W c37 [1, 1, 0, 1, 0] f37)) = bindO (l37_11010 W y0 (.int .i64 6) (.pointer (some ⟨bc, 0, none⟩)) y3 (.int .i64 ((i + 1 : Nat) : Int)) y11 y12 y13 y14 y15 y16 y17 y18 S) (kc W c37 [1, 1, 0, 1, 0] f37) := by
  have e2 : IntKind.i64.wrap ((i : Int) + 1) = ((i + 1 : Nat) : Int) := by rw [wrap64 (by omega) (by omega)]; omega
  have hN := g.n; have hL : S.lock ≤ S.c := g.ok.1
  rw [r37_11010010011110]
  by_cases hx : (j : Int) < (i : Int)
  · simp -implicitDefEqProofs (maxSteps := 1000000) (disch := (refine id ?_; first | with_reducible assumption | ((fail_if_success (with_reducible apply isT_of)); (fail_if_success (first | fail)); first | (simp +arith only [new_c, new_lock, upd_c, upd_lock, relock_c, relock_lock]; done) | (refine Nat.le_trans hN ?_; simp +arith only [new_c, new_lock, upd_c, upd_lock, relock_c, relock_lock]; done) | (refine Nat.le_trans hL ?_; simp +arith only [new_c, new_lock, upd_c, upd_lock, relock_c, relock_lock]; done) | omega | (simp (disch := (simp only [new_c, upd_c, relock_c] <;> omega)) only [new_at, new_lo, upd_self, upd_lo, relock_heap]; done) | fail))) only [hx, e2, k37_11010010011110_2, ↓bindV_some, ↓bindS_some, ↓bindO_some, ↓condB_false, wV_true, wV_false, ↓wO_true, ↓wO_false, ↓wS_false, bindV_some, bindS_some, bindO_some, ↓gV_t, wrap64, ↓condK_B, wO_true, wO_false, wS_false, pick_bool, bin_add, bin_lss, bin_gtr, bin_eql, pick_false, cell_at, eq_self, qS_true, decide_true, decide_false, Nat.zero_add, Int.reduceLT, Int.reduceEq, ↓reduceIte, reduceCtorEq, call_39, ld_3, ld_23, fa_26_6, fa_32_3, al_32]
  · simp -implicitDefEqProofs (maxSteps := 1000000) (disch := (refine id ?_; first | with_reducible assumption | ((fail_if_success (with_reducible apply isT_of)); (fail_if_success (first | fail)); first | (simp +arith only [new_c, new_lock, upd_c, upd_lock, relock_c, relock_lock]; done) | (refine Nat.le_trans hN ?_; simp +arith only [new_c, new_lock, upd_c, upd_lock, relock_c, relock_lock]; done) | (refine Nat.le_trans hL ?_; simp +arith only [new_c, new_lock, upd_c, upd_lock, relock_c, relock_lock]; done) | omega | (simp (disch := (simp only [new_c, upd_c, relock_c] <;> omega)) only [new_at, new_lo, upd_self, upd_lo, relock_heap]; done) | fail))) only [hx, e2, k37_11010010011110_2, ↓bindV_some, ↓bindS_some, ↓bindO_some, ↓condB_false, wV_false, ↓wO_false, ↓wS_false, bindV_some, bindS_some, bindO_some, ↓gV_t, ↓condK_B, wO_false, wS_false, bin_add, bin_lss, bin_eql, pick_false, cell_at, eq_self, qS_true, decide_false, Nat.zero_add, Int.reduceEq, reduceCtorEq, call_39, ld_3, ld_23, fa_26_6, fa_32_3, al_32]
set_option maxRecDepth 100000 in
theorem x7 (g : Gd W S) (i j be : Nat) (hn : i ≤ 2 ^ 60) (hx : ¬ j < i) {bc : Nat} (y0 y3 y11 y12 y13 y14 y15 y16 y17 y18 y19 y20 y21 y22 y23 y24 y25 y26 y27 y28 y29 y30 y31 y32 y33 y34 y35 y36 y37 y38 y39 y40 y41 y42 y43 y44 y45 y46 y47 y48 y49 y50 y51 y52 y53 y54 y55 y56 y57 y58 y59 y60 y61 y62 y63 y64 y65 y66 y67 y68 y69 : Value) :
    bindO (l37_11010010011110 W y0 (.int .i64 7) (.pointer (some ⟨bc, 0, none⟩)) y3 (.int .i64 (i : Int)) (.pointer (some ⟨be, 0, none⟩)) (.int .i64 (j : Int)) y11 y12 y13 y14 y15 y16 y17 y18 y19 y20 y21 y22 y23 y24 y25 y26 y27 y28 y29 y30 y31 y32 y33 y34 y35 y36 y37 y38 y39 y40 y41 y42 y43 y44 y45 y46 y47 y48 y49 y50 y51 y52 y53 y54 y55 y56 y57 y58 y59 y60 y61 y62 y63 y64 y65 y66 y67 y68 y69 S) (fun e A S => bindO (rk W c37_11010 [1, 0, 0, 1, 1, 1, 1, 0] e A S) (kc W c37 [1, 1, 0, 1, 0] f37)) = bindO (l37_11010 W y0 (.int .i64 7) (.pointer (some ⟨bc, 0, none⟩)) y3 (.int .i64 ((i + 1 : Nat) : Int)) y11 y12 y13 y14 y15 y16 y17 y18 S) (kc W c37 [1, 1, 0, 1, 0] f37) := by
  have e2 : IntKind.i64.wrap ((i : Int) + 1) = ((i + 1 : Nat) : Int) := by rw [wrap64 (by omega) (by omega)]; omega
  have hN := g.n; have hL : S.lock ≤ S.c := g.ok.1
  rw [r37_11010010011110]
  have hx : ¬ (j : Int) < (i : Int) := by omega
  simp -implicitDefEqProofs (maxSteps := 1000000) (disch := (refine id ?_; first | with_reducible assumption | ((fail_if_success (with_reducible apply isT_of)); (fail_if_success (first | fail)); first | (simp +arith only [new_c, new_lock, upd_c, upd_lock, relock_c, relock_lock]; done) | (refine Nat.le_trans hN ?_; simp +arith only [new_c, new_lock, upd_c, upd_lock, relock_c, relock_lock]; done) | (refine Nat.le_trans hL ?_; simp +arith only [new_c, new_lock, upd_c, upd_lock, relock_c, relock_lock]; done) | omega | (simp (disch := (simp only [new_c, upd_c, relock_c] <;> omega)) only [new_at, new_lo, upd_self, upd_lo, relock_heap]; done) | fail))) only [hx, e2, k37_11010010011110_2, ↓bindV_some, ↓bindS_some, ↓bindO_some, ↓condB_false, wV_false, ↓wO_true, ↓wO_false, ↓wS_false, bindV_some, bindS_some, bindO_some, ↓gV_t, ↓condK_B, wO_true, wO_false, wS_false, wO_val, bin_add, bin_lss, bin_eql, pick_true, pick_false, cell_at, eq_self, qS_true, decide_true, decide_false, Nat.zero_add, Int.reduceEq, reduceCtorEq, call_39, call_66, ld_3, ld_23, fa_26_6, fa_32_0, fa_32_2, fa_32_3, al_32]
set_option maxRecDepth 100000 in
theorem x8 (g : Gd W S) (i j be : Nat) (hn : i ≤ 2 ^ 60) (hx : ¬ j < i) {bc : Nat} (y0 y3 y11 y12 y13 y14 y15 y16 y17 y18 y19 y20 y21 y22 y23 y24 y25 y26 y27 y28 y29 y30 y31 y32 y33 y34 y35 y36 y37 y38 y39 y40 y41 y42 y43 y44 y45 y46 y47 y48 y49 y50 y51 y52 y53 y54 y55 y56 y57 y58 y59 y60 y61 y62 y63 y64 y65 y66 y67 y68 y69 : Value) :
    bindO (l37_11010010011110 W y0 (.int .i64 8) (.pointer (some ⟨bc, 0, none⟩)) y3 (.int .i64 (i : Int)) (.pointer (some ⟨be, 0, none⟩)) (.int .i64 (j : Int)) y11 y12 y13 y14 y15 y16 y17 y18 y19 y20 y21 y22 y23 y24 y25 y26 y27 y28 y29 y30 y31 y32 y33 y34 y35 y36 y37 y38 y39 y40 y41 y42 y43 y44 y45 y46 y47 y48 y49 y50 y51 y52 y53 y54 y55 y56 y57 y58 y59 y60 y61 y62 y63 y64 y65 y66 y67 y68 y69 S) (fun e A S => bindO (rk W c37_11010 [1, 0, 0, 1, 1, 1, 1, 0] e A S) (kc W c37 [1, 1, 0, 1, 0] f37)) = bindO (l37_11010 W y0 (.int .i64 8) (.pointer (some ⟨bc, 0, none⟩)) y3 (.int .i64 ((i + 1 : Nat) : Int)) y11 y12 y13 y14 y15 y16 y17 y18 S) (kc W c37 [1, 1, 0, 1, 0] f37) := by
  have e2 : IntKind.i64.wrap ((i : Int) + 1) = ((i + 1 : Nat) : Int) := by rw [wrap64 (by omega) (by omega)]; omega
  have hN := g.n; have hL : S.lock ≤ S.c := g.ok.1
  rw [r37_11010010011110]
  have hx : ¬ (j : Int) < (i : Int) := by omega
  simp -implicitDefEqProofs (maxSteps := 1000000) (disch := (refine id ?_; first | with_reducible assumption | ((fail_if_success (with_reducible apply isT_of)); (fail_if_success (first | fail)); first | (simp +arith only [new_c, new_lock, upd_c, upd_lock, relock_c, relock_lock]; done) | (refine Nat.le_trans hN ?_; simp +arith only [new_c, new_lock, upd_c, upd_lock, relock_c, relock_lock]; done) | (refine Nat.le_trans hL ?_; simp +arith only [new_c, new_lock, upd_c, upd_lock, relock_c, relock_lock]; done) | omega | (simp (disch := (simp only [new_c, upd_c, relock_c] <;> omega)) only [new_at, new_lo, upd_self, upd_lo, relock_heap]; done) | fail))) only [hx, e2, k37_11010010011110_2, ↓bindV_some, ↓bindS_some, ↓bindO_some, ↓condB_false, wV_false, ↓wO_true, ↓wO_false, ↓wS_false, bindV_some, bindS_some, bindO_some, ↓gV_t, ↓condK_B, wO_true, wO_false, wS_false, bin_add, bin_lss, bin_eql, pick_true, pick_false, cell_at, cells_at, eq_self, qS_true, decide_true, decide_false, Nat.zero_add, Int.reduceEq, reduceCtorEq, call_14, call_39, call_66, ld_3, ld_23, fa_26_6, ld_26, ld_30, fa_32_1, fa_32_3, ld_32, al_32]
set_option maxRecDepth 100000 in
set_option maxHeartbeats 1000000 in
theorem o5 (g : Gd W S) (c : Cfg) (q : Pl) (hq : vlt S.c (cvl c q) = true) (hs : c.spans = true) (hh : 1 ≤ c.hosts ∧ c.hosts ≤ 6) {bc : Nat} (hb : S.heap bc = .row (ccs c q) 0) (hW : W.heap.size ≤ bc) (a : En) (hat : a.t < 4294967296) (bl ol : Nat) (eA : q.ae = some ⟨bl, ol, none⟩) (j : Nat) (hj : j < c.entries.length) (hn : c.entries.length ≤ 2 ^ 60) (e5 : S.cells W ⟨bl, ol + j * 4, none⟩ 4 = some [.int .i64 a.f, .int .u32 (a.t : Int), .int .i64 a.ph, .int .i64 a.sz]) {Q : Value × St → Prop} (H : badRoute c a = false → ∀ y0 y3 y11 y12 y13 y14 y15 y16 y17 y18 y19 y20 y21 y22 y23 y24 y25 y26 y27 y28 y29 y30 y31 y32 y33 y34 y35 y36 y37 y38 y39 y40 y41 y42 y43 y44 y45 y46 y47 y48 y49 y50 y51 y52 y53 y54 y55 y56 y57 y58 y59 y60 y61 y62 y63 y64 y65 y66 y67 y68 y69, Wp (bindO (l37_11010010011110 W y0 (.int .i64 5) (.pointer (some ⟨bc, 0, none⟩)) y3 (.int .i64 (j : Int)) (.pointer (some ⟨S.c, 0, none⟩)) (.int .i64 0) y11 y12 y13 y14 y15 y16 y17 y18 y19 y20 y21 y22 y23 y24 y25 y26 y27 y28 y29 y30 y31 y32 y33 y34 y35 y36 y37 y38 y39 y40 y41 y42 y43 y44 y45 y46 y47 y48 y49 y50 y51 y52 y53 y54 y55 y56 y57 y58 y59 y60 y61 y62 y63 y64 y65 y66 y67 y68 y69 (S.new (.row [.int .i64 a.f, .int .u32 (a.t : Int), .int .i64 a.ph, .int .i64 a.sz] 0))) (fun e A S => bindO (rk W c37_11010 [1, 0, 0, 1, 1, 1, 1, 0] e A S) (kc W c37 [1, 1, 0, 1, 0] f37))) Q) (H1 : badRoute c a = true → Q (.bool true, (S.new (.row [.int .i64 a.f, .int .u32 (a.t : Int), .int .i64 a.ph, .int .i64 a.sz] 0)))) (y0 y3 y11 y12 y13 y14 y15 y16 y17 y18 : Value) :
    Wp (bindO (l37_11010 W y0 (.int .i64 5) (.pointer (some ⟨bc, 0, none⟩)) y3 (.int .i64 (j : Int)) y11 y12 y13 y14 y15 y16 y17 y18 S) (kc W c37 [1, 1, 0, 1, 0] f37)) Q := by
  have hlt := row_lt g.ok hb
  have hxl : (j : Int) < (c.entries.length : Int) := by omega
  have g1 : Gd W (S.new (.row [.int .i64 a.f, .int .u32 (a.t : Int), .int .i64 a.ph, .int .i64 a.sz] 0)) := g.new rfl
  have hb1 : (S.new (.row [.int .i64 a.f, .int .u32 (a.t : Int), .int .i64 a.ph, .int .i64 a.sz] 0)).heap bc = S.heap bc := new_lo _ hlt
  have hq1 : vlt (S.c + 1) (cvl c q) = true := vlt_mono (by omega) hq
  have er := RRoute_eq g1 c.hosts hh a.f a.t hat a.sz
  have hN := g.n; have hL : S.lock ≤ S.c := g.ok.1
  rw [r37_11010]
  cases hr : badRoute c a
  · have hr' : route c.hosts a.f a.t a.sz = true := by unfold badRoute at hr; simpa using hr
    rw [hr'] at er
    simp -implicitDefEqProofs (maxSteps := 1000000) (disch := (refine id ?_; first | with_reducible assumption | ((fail_if_success (with_reducible apply isT_of)); (fail_if_success (first | fail)); first | (simp +arith only [new_c, new_lock, upd_c, upd_lock, relock_c, relock_lock]; done) | (refine Nat.le_trans hN ?_; simp +arith only [new_c, new_lock, upd_c, upd_lock, relock_c, relock_lock]; done) | (refine Nat.le_trans hL ?_; simp +arith only [new_c, new_lock, upd_c, upd_lock, relock_c, relock_lock]; done) | omega | (simp (disch := (simp only [new_c, upd_c, relock_c] <;> omega)) only [new_at, new_lo, upd_self, upd_lo, relock_heap]; done) | fail))) only [hb1, hb, hxl, eA, e5, er, ↓bindV_some, ↓bindS_some, ↓bindT_some, ↓condB_true, ↓condB_false, ↓gV_undef, wV_false, ↓wO_true, ↓wO_false, ↓wS_true, ↓wS_false, bindV_some, bindS_some, bindT_some, ↓gV_t, ↓condK_B, wO_true, wO_false, wS_true, wS_false, pick_bool, bin_lss, bin_eql, un_not, pick_false, cell_at, put_cons, cellOf_row, putOf_row, nth_zero, nth_succ, aggOf_some, eq_self, new_upd, new_at, bindO_bindO, splice_nil, splice_cons, decide_true, decide_false, Bool.not_true, Nat.zero_add, List.length_cons, List.length_nil, List.set_cons_zero, List.set_cons_succ, List.all_cons, List.all_nil, storable_int, Bool.and_self, Nat.reduceAdd, Int.reduceEq, Int.toNat_natCast, ↓reduceIte, Nat.le_refl, reduceCtorEq, call_38, ld_3, ld_23, len_23, ix_23, fa_26_0, fa_26_6, ld_30, fa_32_0, fa_32_1, fa_32_3, ld_32, st_32, al_32]
    exact H hr _ _ _ _ _ _ _ _ _ _ _ _ _ _ _ _ _ _ _ _ _ _ _ _ _ _ _ _ _ _ _ _ _ _ _ _ _ _ _ _ _ _ _ _ _ _ _ _ _ _ _ _ _ _ _ _ _ _ _ _ _
  · have hr' : route c.hosts a.f a.t a.sz = false := by unfold badRoute at hr; simpa using hr
    rw [hr'] at er
    simp -implicitDefEqProofs (maxSteps := 1000000) (disch := (refine id ?_; first | with_reducible assumption | ((fail_if_success (with_reducible apply isT_of)); (fail_if_success (first | fail)); first | (simp +arith only [new_c, new_lock, upd_c, upd_lock, relock_c, relock_lock]; done) | (refine Nat.le_trans hN ?_; simp +arith only [new_c, new_lock, upd_c, upd_lock, relock_c, relock_lock]; done) | (refine Nat.le_trans hL ?_; simp +arith only [new_c, new_lock, upd_c, upd_lock, relock_c, relock_lock]; done) | omega | (simp (disch := (simp only [new_c, upd_c, relock_c] <;> omega)) only [new_at, new_lo, upd_self, upd_lo, relock_heap]; done) | fail))) only [hb1, hb, hxl, eA, e5, er, k37_11010_ret, ↓bindV_some, ↓bindS_some, ↓bindT_some, ↓bindO_some, ↓condB_true, ↓condB_false, ↓gV_undef, wV_false, ↓wO_true, ↓wO_false, ↓wS_true, ↓wS_false, bindV_some, bindS_some, bindT_some, bindO_some, ↓gV_t, ↓condK_B, wO_true, wO_false, wS_true, wS_false, pick_bool, bin_lss, bin_eql, un_not, pick_false, cell_at, put_cons, cellOf_row, putOf_row, nth_zero, nth_succ, aggOf_some, eq_self, new_upd, new_at, splice_nil, splice_cons, decide_true, decide_false, Bool.not_false, Nat.zero_add, List.length_cons, List.length_nil, List.set_cons_zero, List.set_cons_succ, List.all_cons, List.all_nil, storable_int, Bool.and_self, Nat.reduceAdd, Int.reduceEq, Int.toNat_natCast, ↓reduceIte, Nat.le_refl, reduceCtorEq, call_38, ld_3, ld_23, len_23, ix_23, fa_26_0, fa_26_6, ld_30, fa_32_0, fa_32_1, fa_32_3, ld_32, st_32, al_32]
    exact Wp.ret (H1 hr)
set_option maxRecDepth 100000 in
theorem d5 (g : Gd W S) (c : Cfg) (q : Pl) {bc : Nat} (hb : S.heap bc = .row (ccs c q) 0) (hW : W.heap.size ≤ bc) (j : Nat) (hj : ¬ j < c.entries.length) (y0 y3 y11 y12 y13 y14 y15 y16 y17 y18 : Value) : bindO (l37_11010 W y0 (.int .i64 5) (.pointer (some ⟨bc, 0, none⟩)) y3 (.int .i64 (j : Int)) y11 y12 y13 y14 y15 y16 y17 y18 S) (kc W c37 [1, 1, 0, 1, 0] f37) = some (.bool false, S) := by
  have hlt := row_lt g.ok hb
  have hxl : ¬ (j : Int) < (c.entries.length : Int) := by omega
  have hN := g.n; have hL : S.lock ≤ S.c := g.ok.1
  rw [r37_11010]
  simp -implicitDefEqProofs (maxSteps := 1000000) (disch := (refine id ?_; first | with_reducible assumption | ((fail_if_success (with_reducible apply isT_of)); (fail_if_success (first | fail)); first | (simp +arith only [new_c, new_lock, upd_c, upd_lock, relock_c, relock_lock]; done) | (refine Nat.le_trans hN ?_; simp +arith only [new_c, new_lock, upd_c, upd_lock, relock_c, relock_lock]; done) | (refine Nat.le_trans hL ?_; simp +arith only [new_c, new_lock, upd_c, upd_lock, relock_c, relock_lock]; done) | omega | (simp (disch := (simp only [new_c, upd_c, relock_c] <;> omega)) only [new_at, new_lo, upd_self, upd_lo, relock_heap]; done) | fail))) only [hb, hxl, k37_11010_0, ↓bindV_some, ↓bindS_some, ↓bindO_some, ↓condB_false, ↓gV_undef, wV_false, ↓wO_true, ↓wO_false, ↓wS_true, ↓wS_false, bindV_some, bindS_some, bindO_some, ↓gV_t, ↓condK_B, wO_true, wO_false, wS_true, wS_false, bin_lss, bin_eql, pick_true, pick_false, cell_at, cellOf_row, nth_zero, nth_succ, eq_self, decide_true, decide_false, Nat.zero_add, Int.reduceEq, reduceCtorEq, call_38, ld_3, ld_23, len_23, fa_26_0, fa_26_6, ld_30, fa_32_0, fa_32_1, fa_32_3, al_32]
set_option maxRecDepth 100000 in
set_option maxHeartbeats 1000000 in
theorem o6 (g : Gd W S) (c : Cfg) (q : Pl) (hq : vlt S.c (cvl c q) = true) (hs : c.spans = true) (hh : 1 ≤ c.hosts ∧ c.hosts ≤ 6) {bc : Nat} (hb : S.heap bc = .row (ccs c q) 0) (hW : W.heap.size ≤ bc) (a : En) (hat : a.t < 4294967296) (bl ol : Nat) (eA : q.ae = some ⟨bl, ol, none⟩) (j : Nat) (hj : j < c.entries.length) (hn : c.entries.length ≤ 2 ^ 60) (e5 : S.cells W ⟨bl, ol + j * 4, none⟩ 4 = some [.int .i64 a.f, .int .u32 (a.t : Int), .int .i64 a.ph, .int .i64 a.sz]) {Q : Value × St → Prop} (hr : badRoute c a = false) (H : badTime c a = false → ∀ y0 y3 y11 y12 y13 y14 y15 y16 y17 y18 y19 y20 y21 y22 y23 y24 y25 y26 y27 y28 y29 y30 y31 y32 y33 y34 y35 y36 y37 y38 y39 y40 y41 y42 y43 y44 y45 y46 y47 y48 y49 y50 y51 y52 y53 y54 y55 y56 y57 y58 y59 y60 y61 y62 y63 y64 y65 y66 y67 y68 y69, Wp (bindO (l37_11010010011110 W y0 (.int .i64 6) (.pointer (some ⟨bc, 0, none⟩)) y3 (.int .i64 (j : Int)) (.pointer (some ⟨S.c, 0, none⟩)) (.int .i64 0) y11 y12 y13 y14 y15 y16 y17 y18 y19 y20 y21 y22 y23 y24 y25 y26 y27 y28 y29 y30 y31 y32 y33 y34 y35 y36 y37 y38 y39 y40 y41 y42 y43 y44 y45 y46 y47 y48 y49 y50 y51 y52 y53 y54 y55 y56 y57 y58 y59 y60 y61 y62 y63 y64 y65 y66 y67 y68 y69 (S.new (.row [.int .i64 a.f, .int .u32 (a.t : Int), .int .i64 a.ph, .int .i64 a.sz] 0))) (fun e A S => bindO (rk W c37_11010 [1, 0, 0, 1, 1, 1, 1, 0] e A S) (kc W c37 [1, 1, 0, 1, 0] f37))) Q) (H1 : badTime c a = true → Q (.bool true, (S.new (.row [.int .i64 a.f, .int .u32 (a.t : Int), .int .i64 a.ph, .int .i64 a.sz] 0)))) (y0 y3 y11 y12 y13 y14 y15 y16 y17 y18 : Value) :
    Wp (bindO (l37_11010 W y0 (.int .i64 6) (.pointer (some ⟨bc, 0, none⟩)) y3 (.int .i64 (j : Int)) y11 y12 y13 y14 y15 y16 y17 y18 S) (kc W c37 [1, 1, 0, 1, 0] f37)) Q := by
  have hlt := row_lt g.ok hb
  have hxl : (j : Int) < (c.entries.length : Int) := by omega
  have g1 : Gd W (S.new (.row [.int .i64 a.f, .int .u32 (a.t : Int), .int .i64 a.ph, .int .i64 a.sz] 0)) := g.new rfl
  have hb1 : (S.new (.row [.int .i64 a.f, .int .u32 (a.t : Int), .int .i64 a.ph, .int .i64 a.sz] 0)).heap bc = S.heap bc := new_lo _ hlt
  have hq1 : vlt (S.c + 1) (cvl c q) = true := vlt_mono (by omega) hq
  have hs' : (1 ≤ c.cycle ∧ c.cycle ≤ 1073741824) ∧ (0 ≤ c.delay ∧ c.delay ≤ 1048576) ∧ (0 ≤ c.window ∧ c.window ≤ 1048576) ∧ (0 ≤ c.prec ∧ c.prec ≤ 1048576) := by
    have hs := hs
    unfold Cfg.spans inB at hs
    simp only [Bool.and_eq_true, decide_eq_true_eq] at hs
    omega
  have eQ : quiet c = qv c := by unfold quiet qv; rw [if_pos hs]
  have hqv : 0 ≤ qv c := by unfold qv; omega
  have eq' := fun (U : St) (gU : Gd W U) (hU : vlt U.c (cvl c q) = true) => RQuiet_eq gU c q hU
  rw [eQ] at eq'
  have tr := tm_rng a.sz
  have eT0 := fun (hp : -1125899906842624 ≤ a.ph ∧ a.ph ≤ 1125899906842624) (U : St) (gU : Gd W U) (hU : vlt U.c (cvl c q) = true) => RTimes_eq gU c q hU hs a hp
  obtain ⟨ad, cd, ae, ce, al, cl⟩ := q
  simp only at eA
  subst eA
  have hN := g.n; have hL : S.lock ≤ S.c := g.ok.1
  rw [r37_11010]
  by_cases h1 : a.ph < qv c
  · simp -implicitDefEqProofs (maxSteps := 1000000) (disch := (refine id ?_; first | with_reducible assumption | (with_reducible refine IsT.left ?_; with_reducible assumption) | (with_reducible refine IsT.left (IsT.left ?_); with_reducible assumption) | ((first | with_reducible refine nat_lt_id ?_ | with_reducible refine nat_le_id ?_ | with_reducible refine nat_ne_id ?_); (first | (simp +arith only [new_c, new_lock, upd_c, upd_lock, relock_c, relock_lock]; done) | (simp only [new_c, new_lock, upd_c, upd_lock, relock_c, relock_lock]; with_reducible assumption) | (refine Nat.le_trans hN ?_; simp +arith only [new_c, new_lock, upd_c, upd_lock, relock_c, relock_lock]; done) | (refine Nat.le_trans hL ?_; simp +arith only [new_c, new_lock, upd_c, upd_lock, relock_c, relock_lock]; done) | (apply Nat.lt_of_lt_of_le; with_reducible assumption; simp +arith only [new_c, new_lock, upd_c, upd_lock, relock_c, relock_lock]; done) | (apply Nat.ne_of_lt; apply Nat.lt_of_lt_of_le; with_reducible assumption; simp +arith only [new_c, new_lock, upd_c, upd_lock, relock_c, relock_lock]; done) | fail)) | ((fail_if_success (with_reducible apply isT_of)); (fail_if_success (first | with_reducible refine nat_lt_id ?_ | with_reducible refine nat_le_id ?_ | with_reducible refine nat_ne_id ?_)); first | (simp +arith only [new_c, new_lock, upd_c, upd_lock, relock_c, relock_lock]; done) | (refine Nat.le_trans hN ?_; simp +arith only [new_c, new_lock, upd_c, upd_lock, relock_c, relock_lock]; done) | (refine Nat.le_trans hL ?_; simp +arith only [new_c, new_lock, upd_c, upd_lock, relock_c, relock_lock]; done) | omega | (with_reducible apply Gd.cl; with_reducible assumption) | (simp only [new_c, new_lock, upd_c, upd_lock, relock_c, relock_lock] <;> omega) | with_reducible exact Low.rfl' _ | (with_reducible refine Low.new ?_ _; (repeat (first | with_reducible exact Low.rfl' _ | with_reducible assumption | refine Low.new ?_ _ | refine Low.upd ?_ (by (first | omega | (simp only [new_c, upd_c, relock_c] <;> omega))) _)); done) | (with_reducible refine Low.upd ?_ (by (first | omega | (simp only [new_c, upd_c, relock_c] <;> omega))) _; (repeat (first | with_reducible exact Low.rfl' _ | with_reducible assumption | refine Low.new ?_ _ | refine Low.upd ?_ (by (first | omega | (simp only [new_c, upd_c, relock_c] <;> omega))) _)); done) | (with_reducible refine Gd.relock2 ?_ ?_; rotate_left; simp only [new_c, upd_c, relock_c]; (repeat (first | with_reducible assumption | refine Gd.new ?_ (by (simp only [objLt_row, objLt_dead, List.all_cons, List.all_nil, vlt1_int, vlt1_bool, vlt1_string, vlt1_nilp, vlt1_nils, vlt1_ptr, vlt1_sl, vlt1_func, vlt0_ptr, vlt0_sl, vlt0_int, vlt0_bool, vlt0_string, vlt0_nilp, vlt0_nils, vlt_int, vlt_bool, vlt_string, vlt_nilp, vlt_nils, vlt_ptr, vlt_sl, vlt_agg, vlt_func, List.toArray, Bool.and_true, Bool.true_and, Bool.and_self, Bool.and_eq_true, decide_eq_true_eq, and_true, true_and, new_c, upd_c, relock_c] <;> omega)) | refine Gd.relock ?_)); done) | (with_reducible refine nat_eq_id ?_; first | with_reducible rfl | (simp only [new_lock, upd_lock, relock_lock, new_c, upd_c, relock_c]; done)) | (simp (disch := (simp only [new_c, upd_c, relock_c] <;> omega)) only [new_at, new_lo, upd_self, upd_lo, relock_heap]; done) | (with_reducible refine Rd.low (by with_reducible assumption) ?_; (repeat (first | with_reducible exact Low.rfl' _ | with_reducible assumption | refine Low.new ?_ _ | refine Low.upd ?_ (by (first | omega | (simp only [new_c, upd_c, relock_c] <;> omega))) _)); done) | (simp only [flatR_int, flatR_bool, flatR_string, flatR_tuple, flatR_agg, flat_int, flat_bool, flat_string, flat_agg, flat0_int, flat0_bool, flat0_string, List.all_cons, List.all_nil, Bool.and_self, Bool.and_true, Bool.true_and]; done) | ((first | with_reducible refine int_lt_id ?_ | with_reducible refine int_le_id ?_); simp only [IsT, decide_eq_true_eq, Bool.and_eq_true, Bool.or_eq_true, Bool.not_eq_true', decide_eq_false_iff_not] at *; omega) | (simp only [objLt_row, objLt_dead, List.all_cons, List.all_nil, vlt1_int, vlt1_bool, vlt1_string, vlt1_nilp, vlt1_nils, vlt1_ptr, vlt1_sl, vlt1_func, vlt0_ptr, vlt0_sl, vlt0_int, vlt0_bool, vlt0_string, vlt0_nilp, vlt0_nils, vlt_int, vlt_bool, vlt_string, vlt_nilp, vlt_nils, vlt_ptr, vlt_sl, vlt_agg, vlt_func, List.toArray, Bool.and_true, Bool.true_and, Bool.and_self, Bool.and_eq_true, decide_eq_true_eq, and_true, true_and, new_c, upd_c, relock_c]; (try omega); done) | fail))) only [hb1, hb, hxl, e5, eq', h1, k37_11010_ret, ↓bindV_some, ↓bindS_some, ↓bindT_some, ↓bindO_some, ↓condB_true, ↓condB_false, wV_true, wV_false, ↓wO_true, ↓wO_false, ↓wS_true, ↓wS_false, bindV_some, bindS_some, bindT_some, bindO_some, ↓gV_t, ↓gV_f, ↓condK_B, wO_true, wO_false, wS_true, wS_false, wO_val, pick_bool, bin_lss, bin_eql, pick_true, pick_false, cell_at, cells_at, put_cons, cellOf_row, cellsOf_row, putOf_row, nth_zero, nth_succ, aggOf_some, eq_self, new_upd, new_at, new_c, new_lock, relock2, relock_id, qS_true, unlock_some, splice_nil, splice_cons, decide_true, decide_false, Bool.not_true, Nat.zero_add, List.length_cons, List.length_nil, List.drop_zero, List.take_succ_cons, List.take_zero, List.set_cons_zero, List.set_cons_succ, List.all_cons, List.all_nil, storable_int, Bool.and_self, Nat.reduceAdd, Int.reduceEq, Int.toNat_natCast, ↓reduceIte, Nat.le_refl, reduceCtorEq, call_14, call_20, ld_2, ld_23, len_23, ix_23, fa_26_1, fa_26_6, ld_26, fa_32_2, ld_32, st_32, al_32]
    exact Wp.ret (H1 (by unfold badTime; rw [decide_eq_true h1]; rfl))
  · by_cases h2 : c.cycle ≤ a.ph
    · simp -implicitDefEqProofs (maxSteps := 1000000) (disch := (refine id ?_; first | with_reducible assumption | (with_reducible refine IsT.left ?_; with_reducible assumption) | (with_reducible refine IsT.left (IsT.left ?_); with_reducible assumption) | ((first | with_reducible refine nat_lt_id ?_ | with_reducible refine nat_le_id ?_ | with_reducible refine nat_ne_id ?_); (first | (simp +arith only [new_c, new_lock, upd_c, upd_lock, relock_c, relock_lock]; done) | (simp only [new_c, new_lock, upd_c, upd_lock, relock_c, relock_lock]; with_reducible assumption) | (refine Nat.le_trans hN ?_; simp +arith only [new_c, new_lock, upd_c, upd_lock, relock_c, relock_lock]; done) | (refine Nat.le_trans hL ?_; simp +arith only [new_c, new_lock, upd_c, upd_lock, relock_c, relock_lock]; done) | (apply Nat.lt_of_lt_of_le; with_reducible assumption; simp +arith only [new_c, new_lock, upd_c, upd_lock, relock_c, relock_lock]; done) | (apply Nat.ne_of_lt; apply Nat.lt_of_lt_of_le; with_reducible assumption; simp +arith only [new_c, new_lock, upd_c, upd_lock, relock_c, relock_lock]; done) | fail)) | ((fail_if_success (with_reducible apply isT_of)); (fail_if_success (first | with_reducible refine nat_lt_id ?_ | with_reducible refine nat_le_id ?_ | with_reducible refine nat_ne_id ?_)); first | (simp +arith only [new_c, new_lock, upd_c, upd_lock, relock_c, relock_lock]; done) | (refine Nat.le_trans hN ?_; simp +arith only [new_c, new_lock, upd_c, upd_lock, relock_c, relock_lock]; done) | (refine Nat.le_trans hL ?_; simp +arith only [new_c, new_lock, upd_c, upd_lock, relock_c, relock_lock]; done) | omega | (with_reducible apply Gd.cl; with_reducible assumption) | (simp only [new_c, new_lock, upd_c, upd_lock, relock_c, relock_lock] <;> omega) | with_reducible exact Low.rfl' _ | (with_reducible refine Low.new ?_ _; (repeat (first | with_reducible exact Low.rfl' _ | with_reducible assumption | refine Low.new ?_ _ | refine Low.upd ?_ (by (first | omega | (simp only [new_c, upd_c, relock_c] <;> omega))) _)); done) | (with_reducible refine Low.upd ?_ (by (first | omega | (simp only [new_c, upd_c, relock_c] <;> omega))) _; (repeat (first | with_reducible exact Low.rfl' _ | with_reducible assumption | refine Low.new ?_ _ | refine Low.upd ?_ (by (first | omega | (simp only [new_c, upd_c, relock_c] <;> omega))) _)); done) | (with_reducible refine Gd.relock2 ?_ ?_; rotate_left; simp only [new_c, upd_c, relock_c]; (repeat (first | with_reducible assumption | refine Gd.new ?_ (by (simp only [objLt_row, objLt_dead, List.all_cons, List.all_nil, vlt1_int, vlt1_bool, vlt1_string, vlt1_nilp, vlt1_nils, vlt1_ptr, vlt1_sl, vlt1_func, vlt0_ptr, vlt0_sl, vlt0_int, vlt0_bool, vlt0_string, vlt0_nilp, vlt0_nils, vlt_int, vlt_bool, vlt_string, vlt_nilp, vlt_nils, vlt_ptr, vlt_sl, vlt_agg, vlt_func, List.toArray, Bool.and_true, Bool.true_and, Bool.and_self, Bool.and_eq_true, decide_eq_true_eq, and_true, true_and, new_c, upd_c, relock_c] <;> omega)) | refine Gd.relock ?_)); done) | (with_reducible refine nat_eq_id ?_; first | with_reducible rfl | (simp only [new_lock, upd_lock, relock_lock, new_c, upd_c, relock_c]; done)) | (simp (disch := (simp only [new_c, upd_c, relock_c] <;> omega)) only [new_at, new_lo, upd_self, upd_lo, relock_heap]; done) | (with_reducible refine Rd.low (by with_reducible assumption) ?_; (repeat (first | with_reducible exact Low.rfl' _ | with_reducible assumption | refine Low.new ?_ _ | refine Low.upd ?_ (by (first | omega | (simp only [new_c, upd_c, relock_c] <;> omega))) _)); done) | (simp only [flatR_int, flatR_bool, flatR_string, flatR_tuple, flatR_agg, flat_int, flat_bool, flat_string, flat_agg, flat0_int, flat0_bool, flat0_string, List.all_cons, List.all_nil, Bool.and_self, Bool.and_true, Bool.true_and]; done) | ((first | with_reducible refine int_lt_id ?_ | with_reducible refine int_le_id ?_); simp only [IsT, decide_eq_true_eq, Bool.and_eq_true, Bool.or_eq_true, Bool.not_eq_true', decide_eq_false_iff_not] at *; omega) | (simp only [objLt_row, objLt_dead, List.all_cons, List.all_nil, vlt1_int, vlt1_bool, vlt1_string, vlt1_nilp, vlt1_nils, vlt1_ptr, vlt1_sl, vlt1_func, vlt0_ptr, vlt0_sl, vlt0_int, vlt0_bool, vlt0_string, vlt0_nilp, vlt0_nils, vlt_int, vlt_bool, vlt_string, vlt_nilp, vlt_nils, vlt_ptr, vlt_sl, vlt_agg, vlt_func, List.toArray, Bool.and_true, Bool.true_and, Bool.and_self, Bool.and_eq_true, decide_eq_true_eq, and_true, true_and, new_c, upd_c, relock_c]; (try omega); done) | fail))) only [hb1, hb, hxl, e5, eq', h1, h2, k37_11010_ret, ↓bindV_some, ↓bindS_some, ↓bindT_some, ↓bindO_some, ↓condB_true, ↓condB_false, wV_true, wV_false, ↓wO_true, ↓wO_false, ↓wS_true, ↓wS_false, bindV_some, bindS_some, bindT_some, bindO_some, ↓gV_t, ↓gV_f, ↓condK_B, wO_true, wO_false, wS_true, wS_false, wO_val, pick_bool, bin_lss, bin_geq, bin_eql, pick_true, pick_false, cell_at, cells_at, put_cons, cellOf_row, cellsOf_row, putOf_row, nth_zero, nth_succ, aggOf_some, eq_self, new_upd, new_at, new_c, new_lock, relock2, relock_id, qS_true, unlock_some, splice_nil, splice_cons, decide_true, decide_false, Bool.not_true, Bool.not_false, Nat.zero_add, List.length_cons, List.length_nil, List.drop_zero, List.take_succ_cons, List.take_zero, List.set_cons_zero, List.set_cons_succ, List.all_cons, List.all_nil, storable_int, Bool.and_self, Nat.reduceAdd, Int.reduceEq, Int.toNat_natCast, ↓reduceIte, Nat.le_refl, reduceCtorEq, call_14, call_20, ld_2, ld_23, len_23, ix_23, fa_26_1, fa_26_6, ld_26, fa_32_2, ld_32, st_32, al_32]
      exact Wp.ret (H1 (by unfold badTime; rw [decide_eq_true h2, Bool.or_true]; rfl))
    · have eT := eT0 (by omega)
      have eL := late_val c a hs hh hr (by omega)
      by_cases h3 : c.cycle ≤ a.ph + tm a.sz + c.delay + 2 * c.prec + tm a.sz + c.delay + c.prec
      · simp -implicitDefEqProofs (maxSteps := 1000000) (disch := (refine id ?_; first | with_reducible assumption | (with_reducible refine IsT.left ?_; with_reducible assumption) | (with_reducible refine IsT.left (IsT.left ?_); with_reducible assumption) | ((first | with_reducible refine nat_lt_id ?_ | with_reducible refine nat_le_id ?_ | with_reducible refine nat_ne_id ?_); (first | (simp +arith only [new_c, new_lock, upd_c, upd_lock, relock_c, relock_lock]; done) | (simp only [new_c, new_lock, upd_c, upd_lock, relock_c, relock_lock]; with_reducible assumption) | (refine Nat.le_trans hN ?_; simp +arith only [new_c, new_lock, upd_c, upd_lock, relock_c, relock_lock]; done) | (refine Nat.le_trans hL ?_; simp +arith only [new_c, new_lock, upd_c, upd_lock, relock_c, relock_lock]; done) | (apply Nat.lt_of_lt_of_le; with_reducible assumption; simp +arith only [new_c, new_lock, upd_c, upd_lock, relock_c, relock_lock]; done) | (apply Nat.ne_of_lt; apply Nat.lt_of_lt_of_le; with_reducible assumption; simp +arith only [new_c, new_lock, upd_c, upd_lock, relock_c, relock_lock]; done) | fail)) | ((fail_if_success (with_reducible apply isT_of)); (fail_if_success (first | with_reducible refine nat_lt_id ?_ | with_reducible refine nat_le_id ?_ | with_reducible refine nat_ne_id ?_)); first | (simp +arith only [new_c, new_lock, upd_c, upd_lock, relock_c, relock_lock]; done) | (refine Nat.le_trans hN ?_; simp +arith only [new_c, new_lock, upd_c, upd_lock, relock_c, relock_lock]; done) | (refine Nat.le_trans hL ?_; simp +arith only [new_c, new_lock, upd_c, upd_lock, relock_c, relock_lock]; done) | omega | (with_reducible apply Gd.cl; with_reducible assumption) | (simp only [new_c, new_lock, upd_c, upd_lock, relock_c, relock_lock] <;> omega) | with_reducible exact Low.rfl' _ | (with_reducible refine Low.new ?_ _; (repeat (first | with_reducible exact Low.rfl' _ | with_reducible assumption | refine Low.new ?_ _ | refine Low.upd ?_ (by (first | omega | (simp only [new_c, upd_c, relock_c] <;> omega))) _)); done) | (with_reducible refine Low.upd ?_ (by (first | omega | (simp only [new_c, upd_c, relock_c] <;> omega))) _; (repeat (first | with_reducible exact Low.rfl' _ | with_reducible assumption | refine Low.new ?_ _ | refine Low.upd ?_ (by (first | omega | (simp only [new_c, upd_c, relock_c] <;> omega))) _)); done) | (with_reducible refine Gd.relock2 ?_ ?_; rotate_left; simp only [new_c, upd_c, relock_c]; (repeat (first | with_reducible assumption | refine Gd.new ?_ (by (simp only [objLt_row, objLt_dead, List.all_cons, List.all_nil, vlt1_int, vlt1_bool, vlt1_string, vlt1_nilp, vlt1_nils, vlt1_ptr, vlt1_sl, vlt1_func, vlt0_ptr, vlt0_sl, vlt0_int, vlt0_bool, vlt0_string, vlt0_nilp, vlt0_nils, vlt_int, vlt_bool, vlt_string, vlt_nilp, vlt_nils, vlt_ptr, vlt_sl, vlt_agg, vlt_func, List.toArray, Bool.and_true, Bool.true_and, Bool.and_self, Bool.and_eq_true, decide_eq_true_eq, and_true, true_and, new_c, upd_c, relock_c] <;> omega)) | refine Gd.relock ?_)); done) | (with_reducible refine nat_eq_id ?_; first | with_reducible rfl | (simp only [new_lock, upd_lock, relock_lock, new_c, upd_c, relock_c]; done)) | (simp (disch := (simp only [new_c, upd_c, relock_c] <;> omega)) only [new_at, new_lo, upd_self, upd_lo, relock_heap]; done) | (with_reducible refine Rd.low (by with_reducible assumption) ?_; (repeat (first | with_reducible exact Low.rfl' _ | with_reducible assumption | refine Low.new ?_ _ | refine Low.upd ?_ (by (first | omega | (simp only [new_c, upd_c, relock_c] <;> omega))) _)); done) | (simp only [flatR_int, flatR_bool, flatR_string, flatR_tuple, flatR_agg, flat_int, flat_bool, flat_string, flat_agg, flat0_int, flat0_bool, flat0_string, List.all_cons, List.all_nil, Bool.and_self, Bool.and_true, Bool.true_and]; done) | ((first | with_reducible refine int_lt_id ?_ | with_reducible refine int_le_id ?_); simp only [IsT, decide_eq_true_eq, Bool.and_eq_true, Bool.or_eq_true, Bool.not_eq_true', decide_eq_false_iff_not] at *; omega) | (simp only [objLt_row, objLt_dead, List.all_cons, List.all_nil, vlt1_int, vlt1_bool, vlt1_string, vlt1_nilp, vlt1_nils, vlt1_ptr, vlt1_sl, vlt1_func, vlt0_ptr, vlt0_sl, vlt0_int, vlt0_bool, vlt0_string, vlt0_nilp, vlt0_nils, vlt_int, vlt_bool, vlt_string, vlt_nilp, vlt_nils, vlt_ptr, vlt_sl, vlt_agg, vlt_func, List.toArray, Bool.and_true, Bool.true_and, Bool.and_self, Bool.and_eq_true, decide_eq_true_eq, and_true, true_and, new_c, upd_c, relock_c]; (try omega); done) | fail))) only [hb1, hb, hxl, e5, eq', eT, h1, h2, h3, k37_11010_ret, ↓bindV_some, ↓bindS_some, ↓bindT_some, ↓bindO_some, ↓condB_true, ↓condB_false, wV_true, ↓wO_true, ↓wO_false, ↓wS_true, ↓wS_false, bindV_some, bindS_some, bindT_some, bindO_some, ↓gV_t, ↓gV_f, ↓condK_B, wO_true, wO_false, wS_true, wS_false, wO_val, wS_val, pick_bool, bin_lss, bin_geq, bin_eql, pick_false, cell_at, cells_at, put_cons, cellOf_row, cellsOf_row, putOf_row, nth_zero, nth_succ, aggOf_some, eq_self, new_upd, new_at, new_c, new_lock, relock2, relock_id, qS_true, unlock_some, splice_nil, splice_cons, decide_true, decide_false, Bool.not_false, Nat.zero_add, List.length_cons, List.length_nil, List.drop_zero, List.take_succ_cons, List.take_zero, List.set_cons_zero, List.set_cons_succ, List.all_cons, List.all_nil, storable_int, Bool.and_self, Nat.reduceAdd, Int.reduceEq, Int.toNat_natCast, ↓reduceIte, Nat.le_refl, reduceCtorEq, call_14, call_20, ld_2, ld_23, len_23, ix_23, fa_26_1, fa_26_6, ld_26, fa_32_2, ld_32, st_32, al_32, ixv_33_i64_4]
        exact Wp.ret (H1 (by unfold badTime; rw [eL, decide_eq_true h3, Bool.or_true]))
      · simp -implicitDefEqProofs (maxSteps := 1000000) (disch := (refine id ?_; first | with_reducible assumption | (with_reducible refine IsT.left ?_; with_reducible assumption) | (with_reducible refine IsT.left (IsT.left ?_); with_reducible assumption) | ((first | with_reducible refine nat_lt_id ?_ | with_reducible refine nat_le_id ?_ | with_reducible refine nat_ne_id ?_); (first | (simp +arith only [new_c, new_lock, upd_c, upd_lock, relock_c, relock_lock]; done) | (simp only [new_c, new_lock, upd_c, upd_lock, relock_c, relock_lock]; with_reducible assumption) | (refine Nat.le_trans hN ?_; simp +arith only [new_c, new_lock, upd_c, upd_lock, relock_c, relock_lock]; done) | (refine Nat.le_trans hL ?_; simp +arith only [new_c, new_lock, upd_c, upd_lock, relock_c, relock_lock]; done) | (apply Nat.lt_of_lt_of_le; with_reducible assumption; simp +arith only [new_c, new_lock, upd_c, upd_lock, relock_c, relock_lock]; done) | (apply Nat.ne_of_lt; apply Nat.lt_of_lt_of_le; with_reducible assumption; simp +arith only [new_c, new_lock, upd_c, upd_lock, relock_c, relock_lock]; done) | fail)) | ((fail_if_success (with_reducible apply isT_of)); (fail_if_success (first | with_reducible refine nat_lt_id ?_ | with_reducible refine nat_le_id ?_ | with_reducible refine nat_ne_id ?_)); first | (simp +arith only [new_c, new_lock, upd_c, upd_lock, relock_c, relock_lock]; done) | (refine Nat.le_trans hN ?_; simp +arith only [new_c, new_lock, upd_c, upd_lock, relock_c, relock_lock]; done) | (refine Nat.le_trans hL ?_; simp +arith only [new_c, new_lock, upd_c, upd_lock, relock_c, relock_lock]; done) | omega | (with_reducible apply Gd.cl; with_reducible assumption) | (simp only [new_c, new_lock, upd_c, upd_lock, relock_c, relock_lock] <;> omega) | with_reducible exact Low.rfl' _ | (with_reducible refine Low.new ?_ _; (repeat (first | with_reducible exact Low.rfl' _ | with_reducible assumption | refine Low.new ?_ _ | refine Low.upd ?_ (by (first | omega | (simp only [new_c, upd_c, relock_c] <;> omega))) _)); done) | (with_reducible refine Low.upd ?_ (by (first | omega | (simp only [new_c, upd_c, relock_c] <;> omega))) _; (repeat (first | with_reducible exact Low.rfl' _ | with_reducible assumption | refine Low.new ?_ _ | refine Low.upd ?_ (by (first | omega | (simp only [new_c, upd_c, relock_c] <;> omega))) _)); done) | (with_reducible refine Gd.relock2 ?_ ?_; rotate_left; simp only [new_c, upd_c, relock_c]; (repeat (first | with_reducible assumption | refine Gd.new ?_ (by (simp only [objLt_row, objLt_dead, List.all_cons, List.all_nil, vlt1_int, vlt1_bool, vlt1_string, vlt1_nilp, vlt1_nils, vlt1_ptr, vlt1_sl, vlt1_func, vlt0_ptr, vlt0_sl, vlt0_int, vlt0_bool, vlt0_string, vlt0_nilp, vlt0_nils, vlt_int, vlt_bool, vlt_string, vlt_nilp, vlt_nils, vlt_ptr, vlt_sl, vlt_agg, vlt_func, List.toArray, Bool.and_true, Bool.true_and, Bool.and_self, Bool.and_eq_true, decide_eq_true_eq, and_true, true_and, new_c, upd_c, relock_c] <;> omega)) | refine Gd.relock ?_)); done) | (with_reducible refine nat_eq_id ?_; first | with_reducible rfl | (simp only [new_lock, upd_lock, relock_lock, new_c, upd_c, relock_c]; done)) | (simp (disch := (simp only [new_c, upd_c, relock_c] <;> omega)) only [new_at, new_lo, upd_self, upd_lo, relock_heap]; done) | (with_reducible refine Rd.low (by with_reducible assumption) ?_; (repeat (first | with_reducible exact Low.rfl' _ | with_reducible assumption | refine Low.new ?_ _ | refine Low.upd ?_ (by (first | omega | (simp only [new_c, upd_c, relock_c] <;> omega))) _)); done) | (simp only [flatR_int, flatR_bool, flatR_string, flatR_tuple, flatR_agg, flat_int, flat_bool, flat_string, flat_agg, flat0_int, flat0_bool, flat0_string, List.all_cons, List.all_nil, Bool.and_self, Bool.and_true, Bool.true_and]; done) | ((first | with_reducible refine int_lt_id ?_ | with_reducible refine int_le_id ?_); simp only [IsT, decide_eq_true_eq, Bool.and_eq_true, Bool.or_eq_true, Bool.not_eq_true', decide_eq_false_iff_not] at *; omega) | (simp only [objLt_row, objLt_dead, List.all_cons, List.all_nil, vlt1_int, vlt1_bool, vlt1_string, vlt1_nilp, vlt1_nils, vlt1_ptr, vlt1_sl, vlt1_func, vlt0_ptr, vlt0_sl, vlt0_int, vlt0_bool, vlt0_string, vlt0_nilp, vlt0_nils, vlt_int, vlt_bool, vlt_string, vlt_nilp, vlt_nils, vlt_ptr, vlt_sl, vlt_agg, vlt_func, List.toArray, Bool.and_true, Bool.true_and, Bool.and_self, Bool.and_eq_true, decide_eq_true_eq, and_true, true_and, new_c, upd_c, relock_c]; (try omega); done) | fail))) only [hb1, hb, hxl, e5, eq', eT, h1, h2, h3, ↓bindV_some, ↓bindS_some, ↓bindT_some, ↓condB_true, ↓condB_false, wV_true, ↓wO_true, ↓wO_false, ↓wS_true, ↓wS_false, bindV_some, bindS_some, bindT_some, ↓gV_t, ↓gV_f, ↓condK_B, wO_true, wO_false, wS_true, wS_false, wO_val, wS_val, pick_bool, bin_lss, bin_geq, bin_eql, pick_false, cell_at, cells_at, put_cons, cellOf_row, cellsOf_row, putOf_row, nth_zero, nth_succ, aggOf_some, eq_self, new_upd, new_at, new_c, new_lock, bindO_bindO, relock2, relock_id, qS_true, unlock_some, splice_nil, splice_cons, decide_true, decide_false, Bool.not_false, Nat.zero_add, List.length_cons, List.length_nil, List.drop_zero, List.take_succ_cons, List.take_zero, List.set_cons_zero, List.set_cons_succ, List.all_cons, List.all_nil, storable_int, Bool.and_self, Nat.reduceAdd, Int.reduceEq, Int.toNat_natCast, ↓reduceIte, Nat.le_refl, reduceCtorEq, call_14, call_20, ld_2, ld_23, len_23, ix_23, fa_26_1, fa_26_6, ld_26, fa_32_2, ld_32, st_32, al_32, ixv_33_i64_4]
        exact H (by unfold badTime; rw [eL, decide_eq_false h1, decide_eq_false h2, decide_eq_false h3]; rfl) _ _ _ _ _ _ _ _ _ _ _ _ _ _ _ _ _ _ _ _ _ _ _ _ _ _ _ _ _ _ _ _ _ _ _ _ _ _ _ _ _ _ _ _ _ _ _ _ _ _ _ _ _ _ _ _ _ _ _ _ _
set_option maxRecDepth 100000 in
theorem d6 (g : Gd W S) (c : Cfg) (q : Pl) {bc : Nat} (hb : S.heap bc = .row (ccs c q) 0) (hW : W.heap.size ≤ bc) (j : Nat) (hj : ¬ j < c.entries.length) (y0 y3 y11 y12 y13 y14 y15 y16 y17 y18 : Value) : bindO (l37_11010 W y0 (.int .i64 6) (.pointer (some ⟨bc, 0, none⟩)) y3 (.int .i64 (j : Int)) y11 y12 y13 y14 y15 y16 y17 y18 S) (kc W c37 [1, 1, 0, 1, 0] f37) = some (.bool false, S) := by
  have hlt := row_lt g.ok hb
  have hxl : ¬ (j : Int) < (c.entries.length : Int) := by omega
  have hN := g.n; have hL : S.lock ≤ S.c := g.ok.1
  rw [r37_11010]
  simp -implicitDefEqProofs (maxSteps := 1000000) (disch := (refine id ?_; first | with_reducible assumption | ((fail_if_success (with_reducible apply isT_of)); (fail_if_success (first | fail)); first | (simp +arith only [new_c, new_lock, upd_c, upd_lock, relock_c, relock_lock]; done) | (refine Nat.le_trans hN ?_; simp +arith only [new_c, new_lock, upd_c, upd_lock, relock_c, relock_lock]; done) | (refine Nat.le_trans hL ?_; simp +arith only [new_c, new_lock, upd_c, upd_lock, relock_c, relock_lock]; done) | omega | (simp (disch := (simp only [new_c, upd_c, relock_c] <;> omega)) only [new_at, new_lo, upd_self, upd_lo, relock_heap]; done) | fail))) only [hb, hxl, k37_11010_0, ↓bindV_some, ↓bindS_some, ↓bindO_some, ↓condB_false, wV_true, ↓wO_true, ↓wO_false, ↓wS_true, ↓wS_false, bindV_some, bindS_some, bindO_some, ↓gV_t, ↓condK_B, wO_true, wO_false, wS_true, wS_false, wO_val, bin_lss, bin_eql, pick_true, pick_false, cell_at, cells_at, cellOf_row, nth_zero, nth_succ, eq_self, qS_true, decide_true, decide_false, Nat.zero_add, Int.reduceEq, reduceCtorEq, call_14, call_20, ld_2, ld_23, len_23, fa_26_1, fa_26_6, ld_26, fa_32_2, ld_32, al_32]
set_option maxRecDepth 100000 in
set_option maxHeartbeats 1000000 in
theorem o7 (g : Gd W S) (c : Cfg) (q : Pl) (hq : vlt S.c (cvl c q) = true) (hs : c.spans = true) (hh : 1 ≤ c.hosts ∧ c.hosts ≤ 6) {bc : Nat} (hb : S.heap bc = .row (ccs c q) 0) (hW : W.heap.size ≤ bc) (a : En) (hat : a.t < 4294967296) (bl ol : Nat) (eA : q.ae = some ⟨bl, ol, none⟩) (j : Nat) (hj : j < c.entries.length) (hn : c.entries.length ≤ 2 ^ 60) (e5 : S.cells W ⟨bl, ol + j * 4, none⟩ 4 = some [.int .i64 a.f, .int .u32 (a.t : Int), .int .i64 a.ph, .int .i64 a.sz]) {Q : Value × St → Prop} (H : ∀ y0 y3 y11 y12 y13 y14 y15 y16 y17 y18 y19 y20 y21 y22 y23 y24 y25 y26 y27 y28 y29 y30 y31 y32 y33 y34 y35 y36 y37 y38 y39 y40 y41 y42 y43 y44 y45 y46 y47 y48 y49 y50 y51 y52 y53 y54 y55 y56 y57 y58 y59 y60 y61 y62 y63 y64 y65 y66 y67 y68 y69, Wp (bindO (l37_11010010011110 W y0 (.int .i64 7) (.pointer (some ⟨bc, 0, none⟩)) y3 (.int .i64 (j : Int)) (.pointer (some ⟨S.c, 0, none⟩)) (.int .i64 0) y11 y12 y13 y14 y15 y16 y17 y18 y19 y20 y21 y22 y23 y24 y25 y26 y27 y28 y29 y30 y31 y32 y33 y34 y35 y36 y37 y38 y39 y40 y41 y42 y43 y44 y45 y46 y47 y48 y49 y50 y51 y52 y53 y54 y55 y56 y57 y58 y59 y60 y61 y62 y63 y64 y65 y66 y67 y68 y69 (S.new (.row [.int .i64 a.f, .int .u32 (a.t : Int), .int .i64 a.ph, .int .i64 a.sz] 0))) (fun e A S => bindO (rk W c37_11010 [1, 0, 0, 1, 1, 1, 1, 0] e A S) (kc W c37 [1, 1, 0, 1, 0] f37))) Q) (y0 y3 y11 y12 y13 y14 y15 y16 y17 y18 : Value) :
    Wp (bindO (l37_11010 W y0 (.int .i64 7) (.pointer (some ⟨bc, 0, none⟩)) y3 (.int .i64 (j : Int)) y11 y12 y13 y14 y15 y16 y17 y18 S) (kc W c37 [1, 1, 0, 1, 0] f37)) Q := by
  have hlt := row_lt g.ok hb
  have hxl : (j : Int) < (c.entries.length : Int) := by omega
  have g1 : Gd W (S.new (.row [.int .i64 a.f, .int .u32 (a.t : Int), .int .i64 a.ph, .int .i64 a.sz] 0)) := g.new rfl
  have hb1 : (S.new (.row [.int .i64 a.f, .int .u32 (a.t : Int), .int .i64 a.ph, .int .i64 a.sz] 0)).heap bc = S.heap bc := new_lo _ hlt
  have hq1 : vlt (S.c + 1) (cvl c q) = true := vlt_mono (by omega) hq
  have hN := g.n; have hL : S.lock ≤ S.c := g.ok.1
  rw [r37_11010]
  simp -implicitDefEqProofs (maxSteps := 1000000) (disch := (refine id ?_; first | with_reducible assumption | ((fail_if_success (with_reducible apply isT_of)); (fail_if_success (first | fail)); first | (simp +arith only [new_c, new_lock, upd_c, upd_lock, relock_c, relock_lock]; done) | (refine Nat.le_trans hN ?_; simp +arith only [new_c, new_lock, upd_c, upd_lock, relock_c, relock_lock]; done) | (refine Nat.le_trans hL ?_; simp +arith only [new_c, new_lock, upd_c, upd_lock, relock_c, relock_lock]; done) | omega | (simp (disch := (simp only [new_c, upd_c, relock_c] <;> omega)) only [new_at, new_lo, upd_self, upd_lo, relock_heap]; done) | fail))) only [hb, hxl, eA, e5, ↓bindV_some, ↓bindS_some, ↓bindT_some, ↓condB_true, ↓condB_false, ↓gV_undef, wV_false, ↓wO_false, ↓wS_false, bindV_some, bindS_some, bindT_some, ↓gV_t, ↓condK_B, wO_false, wS_false, bin_lss, bin_eql, pick_false, cell_at, put_cons, cellOf_row, putOf_row, nth_zero, nth_succ, aggOf_some, eq_self, new_upd, new_at, bindO_bindO, splice_nil, splice_cons, decide_true, decide_false, Nat.zero_add, List.length_cons, List.length_nil, List.set_cons_zero, List.set_cons_succ, List.all_cons, List.all_nil, storable_int, Bool.and_self, Nat.reduceAdd, Int.reduceEq, Int.toNat_natCast, ↓reduceIte, Nat.le_refl, reduceCtorEq, ld_23, len_23, ix_23, fa_26_6, ld_32, st_32, al_32]
  exact H _ _ _ _ _ _ _ _ _ _ _ _ _ _ _ _ _ _ _ _ _ _ _ _ _ _ _ _ _ _ _ _ _ _ _ _ _ _ _ _ _ _ _ _ _ _ _ _ _ _ _ _ _ _ _ _ _ _ _ _ _
set_option maxRecDepth 100000 in
theorem d7 (g : Gd W S) (c : Cfg) (q : Pl) {bc : Nat} (hb : S.heap bc = .row (ccs c q) 0) (hW : W.heap.size ≤ bc) (j : Nat) (hj : ¬ j < c.entries.length) (y0 y3 y11 y12 y13 y14 y15 y16 y17 y18 : Value) : bindO (l37_11010 W y0 (.int .i64 7) (.pointer (some ⟨bc, 0, none⟩)) y3 (.int .i64 (j : Int)) y11 y12 y13 y14 y15 y16 y17 y18 S) (kc W c37 [1, 1, 0, 1, 0] f37) = some (.bool false, S) := by
  have hlt := row_lt g.ok hb
  have hxl : ¬ (j : Int) < (c.entries.length : Int) := by omega
  have hN := g.n; have hL : S.lock ≤ S.c := g.ok.1
  rw [r37_11010]
  simp -implicitDefEqProofs (maxSteps := 1000000) (disch := (refine id ?_; first | with_reducible assumption | ((fail_if_success (with_reducible apply isT_of)); (fail_if_success (first | fail)); first | (simp +arith only [new_c, new_lock, upd_c, upd_lock, relock_c, relock_lock]; done) | (refine Nat.le_trans hN ?_; simp +arith only [new_c, new_lock, upd_c, upd_lock, relock_c, relock_lock]; done) | (refine Nat.le_trans hL ?_; simp +arith only [new_c, new_lock, upd_c, upd_lock, relock_c, relock_lock]; done) | omega | (simp (disch := (simp only [new_c, upd_c, relock_c] <;> omega)) only [new_at, new_lo, upd_self, upd_lo, relock_heap]; done) | fail))) only [hb, hxl, k37_11010_0, ↓bindV_some, ↓bindS_some, ↓bindO_some, ↓condB_false, ↓gV_undef, wV_false, ↓wO_false, ↓wS_false, bindV_some, bindS_some, bindO_some, ↓gV_t, ↓condK_B, wO_false, wS_false, bin_lss, bin_eql, pick_false, cell_at, cellOf_row, nth_zero, nth_succ, eq_self, decide_false, Nat.zero_add, Int.reduceEq, reduceCtorEq, ld_23, len_23, fa_26_6, al_32]
set_option maxRecDepth 100000 in
set_option maxHeartbeats 1000000 in
theorem o8 (g : Gd W S) (c : Cfg) (q : Pl) (hq : vlt S.c (cvl c q) = true) (hs : c.spans = true) (hh : 1 ≤ c.hosts ∧ c.hosts ≤ 6) {bc : Nat} (hb : S.heap bc = .row (ccs c q) 0) (hW : W.heap.size ≤ bc) (a : En) (hat : a.t < 4294967296) (bl ol : Nat) (eA : q.ae = some ⟨bl, ol, none⟩) (j : Nat) (hj : j < c.entries.length) (hn : c.entries.length ≤ 2 ^ 60) (e5 : S.cells W ⟨bl, ol + j * 4, none⟩ 4 = some [.int .i64 a.f, .int .u32 (a.t : Int), .int .i64 a.ph, .int .i64 a.sz]) {Q : Value × St → Prop} (H : ∀ y0 y3 y11 y12 y13 y14 y15 y16 y17 y18 y19 y20 y21 y22 y23 y24 y25 y26 y27 y28 y29 y30 y31 y32 y33 y34 y35 y36 y37 y38 y39 y40 y41 y42 y43 y44 y45 y46 y47 y48 y49 y50 y51 y52 y53 y54 y55 y56 y57 y58 y59 y60 y61 y62 y63 y64 y65 y66 y67 y68 y69, Wp (bindO (l37_11010010011110 W y0 (.int .i64 8) (.pointer (some ⟨bc, 0, none⟩)) y3 (.int .i64 (j : Int)) (.pointer (some ⟨S.c, 0, none⟩)) (.int .i64 0) y11 y12 y13 y14 y15 y16 y17 y18 y19 y20 y21 y22 y23 y24 y25 y26 y27 y28 y29 y30 y31 y32 y33 y34 y35 y36 y37 y38 y39 y40 y41 y42 y43 y44 y45 y46 y47 y48 y49 y50 y51 y52 y53 y54 y55 y56 y57 y58 y59 y60 y61 y62 y63 y64 y65 y66 y67 y68 y69 (S.new (.row [.int .i64 a.f, .int .u32 (a.t : Int), .int .i64 a.ph, .int .i64 a.sz] 0))) (fun e A S => bindO (rk W c37_11010 [1, 0, 0, 1, 1, 1, 1, 0] e A S) (kc W c37 [1, 1, 0, 1, 0] f37))) Q) (y0 y3 y11 y12 y13 y14 y15 y16 y17 y18 : Value) :
    Wp (bindO (l37_11010 W y0 (.int .i64 8) (.pointer (some ⟨bc, 0, none⟩)) y3 (.int .i64 (j : Int)) y11 y12 y13 y14 y15 y16 y17 y18 S) (kc W c37 [1, 1, 0, 1, 0] f37)) Q := by
  have hlt := row_lt g.ok hb
  have hxl : (j : Int) < (c.entries.length : Int) := by omega
  have g1 : Gd W (S.new (.row [.int .i64 a.f, .int .u32 (a.t : Int), .int .i64 a.ph, .int .i64 a.sz] 0)) := g.new rfl
  have hb1 : (S.new (.row [.int .i64 a.f, .int .u32 (a.t : Int), .int .i64 a.ph, .int .i64 a.sz] 0)).heap bc = S.heap bc := new_lo _ hlt
  have hq1 : vlt (S.c + 1) (cvl c q) = true := vlt_mono (by omega) hq
  have hN := g.n; have hL : S.lock ≤ S.c := g.ok.1
  rw [r37_11010]
  simp -implicitDefEqProofs (maxSteps := 1000000) (disch := (refine id ?_; first | with_reducible assumption | ((fail_if_success (with_reducible apply isT_of)); (fail_if_success (first | fail)); first | (simp +arith only [new_c, new_lock, upd_c, upd_lock, relock_c, relock_lock]; done) | (refine Nat.le_trans hN ?_; simp +arith only [new_c, new_lock, upd_c, upd_lock, relock_c, relock_lock]; done) | (refine Nat.le_trans hL ?_; simp +arith only [new_c, new_lock, upd_c, upd_lock, relock_c, relock_lock]; done) | omega | (simp (disch := (simp only [new_c, upd_c, relock_c] <;> omega)) only [new_at, new_lo, upd_self, upd_lo, relock_heap]; done) | fail))) only [hb, hxl, eA, e5, ↓bindV_some, ↓bindS_some, ↓bindT_some, ↓condB_true, ↓condB_false, ↓gV_undef, wV_false, ↓wO_false, ↓wS_false, bindV_some, bindS_some, bindT_some, ↓gV_t, ↓condK_B, wO_false, wS_false, bin_lss, bin_eql, pick_false, cell_at, put_cons, cellOf_row, putOf_row, nth_zero, nth_succ, aggOf_some, eq_self, new_upd, new_at, bindO_bindO, splice_nil, splice_cons, decide_true, decide_false, Nat.zero_add, List.length_cons, List.length_nil, List.set_cons_zero, List.set_cons_succ, List.all_cons, List.all_nil, storable_int, Bool.and_self, Nat.reduceAdd, Int.reduceEq, Int.toNat_natCast, ↓reduceIte, Nat.le_refl, reduceCtorEq, ld_23, len_23, ix_23, fa_26_6, ld_32, st_32, al_32]
  exact H _ _ _ _ _ _ _ _ _ _ _ _ _ _ _ _ _ _ _ _ _ _ _ _ _ _ _ _ _ _ _ _ _ _ _ _ _ _ _ _ _ _ _ _ _ _ _ _ _ _ _ _ _ _ _ _ _ _ _ _ _
set_option maxRecDepth 100000 in
theorem d8 (g : Gd W S) (c : Cfg) (q : Pl) {bc : Nat} (hb : S.heap bc = .row (ccs c q) 0) (hW : W.heap.size ≤ bc) (j : Nat) (hj : ¬ j < c.entries.length) (y0 y3 y11 y12 y13 y14 y15 y16 y17 y18 : Value) : bindO (l37_11010 W y0 (.int .i64 8) (.pointer (some ⟨bc, 0, none⟩)) y3 (.int .i64 (j : Int)) y11 y12 y13 y14 y15 y16 y17 y18 S) (kc W c37 [1, 1, 0, 1, 0] f37) = some (.bool false, S) := by
  have hlt := row_lt g.ok hb
  have hxl : ¬ (j : Int) < (c.entries.length : Int) := by omega
  have hN := g.n; have hL : S.lock ≤ S.c := g.ok.1
  rw [r37_11010]
  simp -implicitDefEqProofs (maxSteps := 1000000) (disch := (refine id ?_; first | with_reducible assumption | ((fail_if_success (with_reducible apply isT_of)); (fail_if_success (first | fail)); first | (simp +arith only [new_c, new_lock, upd_c, upd_lock, relock_c, relock_lock]; done) | (refine Nat.le_trans hN ?_; simp +arith only [new_c, new_lock, upd_c, upd_lock, relock_c, relock_lock]; done) | (refine Nat.le_trans hL ?_; simp +arith only [new_c, new_lock, upd_c, upd_lock, relock_c, relock_lock]; done) | omega | (simp (disch := (simp only [new_c, upd_c, relock_c] <;> omega)) only [new_at, new_lo, upd_self, upd_lo, relock_heap]; done) | fail))) only [hb, hxl, k37_11010_0, ↓bindV_some, ↓bindS_some, ↓bindO_some, ↓condB_false, ↓gV_undef, wV_false, ↓wO_false, ↓wS_false, bindV_some, bindS_some, bindO_some, ↓gV_t, ↓condK_B, wO_false, wS_false, bin_lss, bin_eql, pick_false, cell_at, cellOf_row, nth_zero, nth_succ, eq_self, decide_false, Nat.zero_add, Int.reduceEq, reduceCtorEq, ld_23, len_23, fa_26_6, al_32]
end
end Go.Proofs.Ytogcdgdnjinjkaa.F
end
section
namespace Go.Proofs.Ytogcdgdnjinjkaa.F
open Go Go.Proofs.Ytogcdgdnjinjkaa.E
set_option linter.unusedVariables false
set_option linter.unusedSimpArgs false
section
variable {W : World}
theorem bothF (c : Cfg) (a b : En) (ha : forward c a = a.ph + tm a.sz + c.delay + 2 * c.prec) (hb : forward c b = b.ph + tm b.sz + c.delay + 2 * c.prec) (r : Bool) (h : both c a b = r) : (¬ (a.t &&& b.t = 0) ∧ meets (a.ph + tm a.sz + c.delay + 2 * c.prec) (tm a.sz) (b.ph + tm b.sz + c.delay + 2 * c.prec) (tm b.sz) = true) ↔ r = true := by
  rw [← h, ← ha, ← hb]
  unfold both
  simp only [Bool.and_eq_true, decide_eq_true_eq, ne_eq]
theorem sameF (a b : En) (r : Bool) (h : same a b = r) : (a.f = b.f ∧ meets a.ph (tm a.sz) b.ph (tm b.sz) = true) ↔ r = true := by
  rw [← h]
  unfold same
  simp only [Bool.and_eq_true, decide_eq_true_eq]
theorem take_drop_cons {α : Type} (l : List α) (i j : Nat) (hj : j < i) (hi : i ≤ l.length) : (l.take i).drop j = l[j] :: (l.take i).drop (j + 1) := by
  rw [List.drop_eq_getElem_cons (by rw [List.length_take]; omega), List.getElem_take]
theorem take_succ' {α : Type} (l : List α) (i : Nat) (hi : i < l.length) : l.take (i + 1) = l.take i ++ [l[i]] := by rw [List.take_add_one, List.getElem?_eq_getElem hi]; rfl
theorem il7 (S0 : St) (c : Cfg) (q : Pl) (hs : c.spans = true) (hh : 1 ≤ c.hosts ∧ c.hosts ≤ 6) (hn : c.entries.length ≤ 2 ^ 60) (het : ∀ e ∈ c.entries, e.t < 4294967296) (hph : ∀ e ∈ c.entries, -1125899906842624 ≤ e.ph ∧ e.ph ≤ 1125899906842624) {bc be : Nat} (hW : W.heap.size ≤ bc) (hWe : W.heap.size ≤ be) (hb0 : S0.heap bc = .row (ccs c q) 0) (g0 : Gd W S0) (a : En) (ha : a ∈ c.entries) (he0 : S0.heap be = (.row [.int .i64 a.f, .int .u32 (a.t : Int), .int .i64 a.ph, .int .i64 a.sz] 0)) (hq0 : vlt S0.c (cvl c q) = true) (rd0 : Rd NT W S0 (.slice q.ae c.entries.length q.ce) c.entries) (i : Nat) (hi : i ≤ c.entries.length) {Q : Value × St → Prop} (y0 y3 y11 y12 y13 y14 y15 y16 y17 y18 : Value)
    (K : ((c.entries.take i).any (same a)) = false → ∀ S, Gd W S → Low S0 S → Wp (bindO (l37_11010 W y0 (.int .i64 7) (.pointer (some ⟨bc, 0, none⟩)) y3 (.int .i64 ((i + 1 : Nat) : Int)) y11 y12 y13 y14 y15 y16 y17 y18 S) (kc W c37 [1, 1, 0, 1, 0] f37)) Q) (H : ((c.entries.take i).any (same a)) = true → ∀ S, Low S0 S → Q (.bool true, S)) (n : Nat) : ∀ (j : Nat) (hj : n + j = i) (hpre : ((c.entries.take i).any (same a)) = (((c.entries.take i).drop j).any (same a))) (S : St) (g : Gd W S) (w : Low S0 S) (y19 y20 y21 y22 y23 y24 y25 y26 y27 y28 y29 y30 y31 y32 y33 y34 y35 y36 y37 y38 y39 y40 y41 y42 y43 y44 y45 y46 y47 y48 y49 y50 y51 y52 y53 y54 y55 y56 y57 y58 y59 y60 y61 y62 y63 y64 y65 y66 y67 y68 y69 : Value),
    Wp (bindO (l37_11010010011110 W y0 (.int .i64 7) (.pointer (some ⟨bc, 0, none⟩)) y3 (.int .i64 (i : Int)) (.pointer (some ⟨be, 0, none⟩)) (.int .i64 (j : Int)) y11 y12 y13 y14 y15 y16 y17 y18 y19 y20 y21 y22 y23 y24 y25 y26 y27 y28 y29 y30 y31 y32 y33 y34 y35 y36 y37 y38 y39 y40 y41 y42 y43 y44 y45 y46 y47 y48 y49 y50 y51 y52 y53 y54 y55 y56 y57 y58 y59 y60 y61 y62 y63 y64 y65 y66 y67 y68 y69 S) (fun e A S => bindO (rk W c37_11010 [1, 0, 0, 1, 1, 1, 1, 0] e A S) (kc W c37 [1, 1, 0, 1, 0] f37))) Q := by
  have hbc := row_lt g0.ok hb0
  have hbe := row_lt g0.ok he0
  induction n with
  | zero =>
    intro j hj hpre S g w y19 y20 y21 y22 y23 y24 y25 y26 y27 y28 y29 y30 y31 y32 y33 y34 y35 y36 y37 y38 y39 y40 y41 y42 y43 y44 y45 y46 y47 y48 y49 y50 y51 y52 y53 y54 y55 y56 y57 y58 y59 y60 y61 y62 y63 y64 y65 y66 y67 y68 y69
    rw [x7 g i j be (by omega) (by omega)]
    refine K ?_ S g w
    rw [hpre, List.drop_eq_nil_of_le (by rw [List.length_take]; omega)]
    rfl
  | succ n ih =>
    intro j hj hpre S g w y19 y20 y21 y22 y23 y24 y25 y26 y27 y28 y29 y30 y31 y32 y33 y34 y35 y36 y37 y38 y39 y40 y41 y42 y43 y44 y45 y46 y47 y48 y49 y50 y51 y52 y53 y54 y55 y56 y57 y58 y59 y60 y61 y62 y63 y64 y65 y66 y67 y68 y69
    have hji : j < i := by omega
    have hjl : j < c.entries.length := by omega
    have hb := (w.2.2 bc hbc).trans hb0
    have he := (w.2.2 be hbe).trans he0
    have hq := vlt_mono w.2.1 hq0
    have rd := rd0.low w
    obtain ⟨bl, ol, cp, e, hbS, hr⟩ := rd.at (by omega)
    have eA : q.ae = some ⟨bl, ol, none⟩ := by injection e
    have e5 := (hr j hjl).1
    have hmb := List.getElem_mem hjl
    rw [show NT.k = 4 from rfl, show NT.cs c.entries[j] = [.int .i64 c.entries[j].f, .int .u32 (c.entries[j].t : Int), .int .i64 c.entries[j].ph, .int .i64 c.entries[j].sz] from rfl] at e5
    rw [take_drop_cons c.entries i j hji hi, List.any_cons] at hpre
    clear hr e
    generalize c.entries[j] = b at e5 hmb hpre
    have g1 : Gd W (S.new (.row [.int .i64 b.f, .int .u32 (b.t : Int), .int .i64 b.ph, .int .i64 b.sz] 0)) := g.new rfl
    have x1 : Ext [] S (S.new (.row [.int .i64 b.f, .int .u32 (b.t : Int), .int .i64 b.ph, .int .i64 b.sz] 0)) := Ext.new g.ok rfl
    rw [i7 g c q hq hs hb hW a b he hWe bl ol eA i j hi (by omega) hji e5 (het a ha) (het b hmb) (by have := hph a ha; omega) (by have := hph b hmb; omega)]
    cases hx : same a b
    · rw [hx, Bool.false_or] at hpre
      rw [condB_neg (by rw [sameF a b _ hx]; simp)]
      exact ih (j + 1) (by omega) hpre _ g1 (w.trans x1.low) _ _ _ _ _ _ _ _ _ _ _ _ _ _ _ _ _ _ _ _ _ _ _ _ _ _ _ _ _ _ _ _ _ _ _ _ _ _ _ _ _ _ _ _ _ _ _ _ _ _ _
    · rw [hx, Bool.true_or] at hpre
      rw [condB_pos (by rw [sameF a b _ hx])]
      exact Wp.ret (H hpre _ (w.trans x1.low))
theorem il8 (S0 : St) (c : Cfg) (q : Pl) (hs : c.spans = true) (hh : 1 ≤ c.hosts ∧ c.hosts ≤ 6) (hn : c.entries.length ≤ 2 ^ 60) (het : ∀ e ∈ c.entries, e.t < 4294967296) (hph : ∀ e ∈ c.entries, -1125899906842624 ≤ e.ph ∧ e.ph ≤ 1125899906842624) (hfw : ∀ e ∈ c.entries, forward c e = e.ph + tm e.sz + c.delay + 2 * c.prec) {bc be : Nat} (hW : W.heap.size ≤ bc) (hWe : W.heap.size ≤ be) (hb0 : S0.heap bc = .row (ccs c q) 0) (g0 : Gd W S0) (a : En) (ha : a ∈ c.entries) (he0 : S0.heap be = (.row [.int .i64 a.f, .int .u32 (a.t : Int), .int .i64 a.ph, .int .i64 a.sz] 0)) (hq0 : vlt S0.c (cvl c q) = true) (rd0 : Rd NT W S0 (.slice q.ae c.entries.length q.ce) c.entries) (i : Nat) (hi : i ≤ c.entries.length) {Q : Value × St → Prop} (y0 y3 y11 y12 y13 y14 y15 y16 y17 y18 : Value)
    (K : ((c.entries.take i).any ((both c) a)) = false → ∀ S, Gd W S → Low S0 S → Wp (bindO (l37_11010 W y0 (.int .i64 8) (.pointer (some ⟨bc, 0, none⟩)) y3 (.int .i64 ((i + 1 : Nat) : Int)) y11 y12 y13 y14 y15 y16 y17 y18 S) (kc W c37 [1, 1, 0, 1, 0] f37)) Q) (H : ((c.entries.take i).any ((both c) a)) = true → ∀ S, Low S0 S → Q (.bool true, S)) (n : Nat) : ∀ (j : Nat) (hj : n + j = i) (hpre : ((c.entries.take i).any ((both c) a)) = (((c.entries.take i).drop j).any ((both c) a))) (S : St) (g : Gd W S) (w : Low S0 S) (y19 y20 y21 y22 y23 y24 y25 y26 y27 y28 y29 y30 y31 y32 y33 y34 y35 y36 y37 y38 y39 y40 y41 y42 y43 y44 y45 y46 y47 y48 y49 y50 y51 y52 y53 y54 y55 y56 y57 y58 y59 y60 y61 y62 y63 y64 y65 y66 y67 y68 y69 : Value),
    Wp (bindO (l37_11010010011110 W y0 (.int .i64 8) (.pointer (some ⟨bc, 0, none⟩)) y3 (.int .i64 (i : Int)) (.pointer (some ⟨be, 0, none⟩)) (.int .i64 (j : Int)) y11 y12 y13 y14 y15 y16 y17 y18 y19 y20 y21 y22 y23 y24 y25 y26 y27 y28 y29 y30 y31 y32 y33 y34 y35 y36 y37 y38 y39 y40 y41 y42 y43 y44 y45 y46 y47 y48 y49 y50 y51 y52 y53 y54 y55 y56 y57 y58 y59 y60 y61 y62 y63 y64 y65 y66 y67 y68 y69 S) (fun e A S => bindO (rk W c37_11010 [1, 0, 0, 1, 1, 1, 1, 0] e A S) (kc W c37 [1, 1, 0, 1, 0] f37))) Q := by
  have hbc := row_lt g0.ok hb0
  have hbe := row_lt g0.ok he0
  induction n with
  | zero =>
    intro j hj hpre S g w y19 y20 y21 y22 y23 y24 y25 y26 y27 y28 y29 y30 y31 y32 y33 y34 y35 y36 y37 y38 y39 y40 y41 y42 y43 y44 y45 y46 y47 y48 y49 y50 y51 y52 y53 y54 y55 y56 y57 y58 y59 y60 y61 y62 y63 y64 y65 y66 y67 y68 y69
    rw [x8 g i j be (by omega) (by omega)]
    refine K ?_ S g w
    rw [hpre, List.drop_eq_nil_of_le (by rw [List.length_take]; omega)]
    rfl
  | succ n ih =>
    intro j hj hpre S g w y19 y20 y21 y22 y23 y24 y25 y26 y27 y28 y29 y30 y31 y32 y33 y34 y35 y36 y37 y38 y39 y40 y41 y42 y43 y44 y45 y46 y47 y48 y49 y50 y51 y52 y53 y54 y55 y56 y57 y58 y59 y60 y61 y62 y63 y64 y65 y66 y67 y68 y69
    have hji : j < i := by omega
    have hjl : j < c.entries.length := by omega
    have hb := (w.2.2 bc hbc).trans hb0
    have he := (w.2.2 be hbe).trans he0
    have hq := vlt_mono w.2.1 hq0
    have rd := rd0.low w
    obtain ⟨bl, ol, cp, e, hbS, hr⟩ := rd.at (by omega)
    have eA : q.ae = some ⟨bl, ol, none⟩ := by injection e
    have e5 := (hr j hjl).1
    have hmb := List.getElem_mem hjl
    rw [show NT.k = 4 from rfl, show NT.cs c.entries[j] = [.int .i64 c.entries[j].f, .int .u32 (c.entries[j].t : Int), .int .i64 c.entries[j].ph, .int .i64 c.entries[j].sz] from rfl] at e5
    rw [take_drop_cons c.entries i j hji hi, List.any_cons] at hpre
    clear hr e
    generalize c.entries[j] = b at e5 hmb hpre
    have g1 : Gd W (S.new (.row [.int .i64 b.f, .int .u32 (b.t : Int), .int .i64 b.ph, .int .i64 b.sz] 0)) := g.new rfl
    have x1 : Ext [] S (S.new (.row [.int .i64 b.f, .int .u32 (b.t : Int), .int .i64 b.ph, .int .i64 b.sz] 0)) := Ext.new g.ok rfl
    rw [i8 g c q hq hs hb hW a b he hWe bl ol eA i j hi (by omega) hji e5 (het a ha) (het b hmb) (hph a ha) (hph b hmb)]
    cases hx : (both c) a b
    · rw [hx, Bool.false_or] at hpre
      rw [condB_neg (by rw [bothF c a b (hfw a ha) (hfw b hmb) _ hx]; simp)]
      exact ih (j + 1) (by omega) hpre _ g1 (w.trans x1.low) _ _ _ _ _ _ _ _ _ _ _ _ _ _ _ _ _ _ _ _ _ _ _ _ _ _ _ _ _ _ _ _ _ _ _ _ _ _ _ _ _ _ _ _ _ _ _ _ _ _ _
    · rw [hx, Bool.true_or] at hpre
      rw [condB_pos (by rw [bothF c a b (hfw a ha) (hfw b hmb) _ hx])]
      exact Wp.ret (H hpre _ (w.trans x1.low))
theorem ol5 (S0 : St) (c : Cfg) (q : Pl) (hs : c.spans = true) (hh : 1 ≤ c.hosts ∧ c.hosts ≤ 6) (hn : c.entries.length ≤ 2 ^ 60) (het : ∀ e ∈ c.entries, e.t < 4294967296) {bc : Nat} (hW : W.heap.size ≤ bc) (hb0 : S0.heap bc = .row (ccs c q) 0) (g0 : Gd W S0) (hq0 : vlt S0.c (cvl c q) = true) (rd0 : Rd NT W S0 (.slice q.ae c.entries.length q.ce) c.entries) (n : Nat) : ∀ (j : Nat) (hj : n + j = c.entries.length) (S : St) (g : Gd W S) (w : Low S0 S) (y0 y3 y11 y12 y13 y14 y15 y16 y17 y18 : Value),
    Wp (bindO (l37_11010 W y0 (.int .i64 5) (.pointer (some ⟨bc, 0, none⟩)) y3 (.int .i64 (j : Int)) y11 y12 y13 y14 y15 y16 y17 y18 S) (kc W c37 [1, 1, 0, 1, 0] f37)) (fun r => r.1 = .bool ((c.entries.drop j).any (badRoute c)) ∧ Low S0 r.2) := by
  have hbc := row_lt g0.ok hb0
  induction n with
  | zero =>
    intro j hj S g w y0 y3 y11 y12 y13 y14 y15 y16 y17 y18
    have hb := (w.2.2 bc hbc).trans hb0
    rw [d5 g c q hb hW j (by omega), List.drop_eq_nil_of_le (by omega)]
    exact Wp.leaf rfl w
  | succ n ih =>
    intro j hj S g w y0 y3 y11 y12 y13 y14 y15 y16 y17 y18
    have hjl : j < c.entries.length := by omega
    have hb := (w.2.2 bc hbc).trans hb0
    have hq := vlt_mono w.2.1 hq0
    have rd := rd0.low w
    have rd' := rd
    have ih := ih (j + 1) (by omega)
    obtain ⟨bl, ol, cp, e, hbS, hr⟩ := rd.at (by omega)
    have eA : q.ae = some ⟨bl, ol, none⟩ := by injection e
    have e5 := (hr j hjl).1
    have hma := List.getElem_mem hjl
    rw [show NT.k = 4 from rfl, show NT.cs c.entries[j] = [.int .i64 c.entries[j].f, .int .u32 (c.entries[j].t : Int), .int .i64 c.entries[j].ph, .int .i64 c.entries[j].sz] from rfl] at e5
    rw [List.drop_eq_getElem_cons hjl]
    rw [List.any_cons]
    clear hr e
    generalize c.entries[j] = a at *
    have g1 : Gd W (S.new (.row [.int .i64 a.f, .int .u32 (a.t : Int), .int .i64 a.ph, .int .i64 a.sz] 0)) := g.new rfl
    have x1 : Ext [] S (S.new (.row [.int .i64 a.f, .int .u32 (a.t : Int), .int .i64 a.ph, .int .i64 a.sz] 0)) := Ext.new g.ok rfl
    have hlt := row_lt g.ok hb
    refine o5 g c q hq hs hh hb hW a (het a hma) bl ol eA j hjl (by omega) e5 (fun hx => ?_) (fun hx => ?_) _ _ _ _ _ _ _ _ _ _
    · intro z0 z1 z2 z3 z4 z5 z6 z7 z8 z9 z10 z11 z12 z13 z14 z15 z16 z17 z18 z19 z20 z21 z22 z23 z24 z25 z26 z27 z28 z29 z30 z31 z32 z33 z34 z35 z36 z37 z38 z39 z40 z41 z42 z43 z44 z45 z46 z47 z48 z49 z50 z51 z52 z53 z54 z55 z56 z57 z58 z59 z60
      have xx := x5 g1 j 0 S.c (by omega) (bc := bc) z0 z1 z2 z3 z4 z5 z6 z7 z8 z9 z10 z11 z12 z13 z14 z15 z16 z17 z18 z19 z20 z21 z22 z23 z24 z25 z26 z27 z28 z29 z30 z31 z32 z33 z34 z35 z36 z37 z38 z39 z40 z41 z42 z43 z44 z45 z46 z47 z48 z49 z50 z51 z52 z53 z54 z55 z56 z57 z58 z59 z60
      rw [cast0] at xx
      rw [xx, hx, Bool.false_or]
      exact ih _ g1 (w.trans x1.low) _ _ _ _ _ _ _ _ _ _
    · rw [hx, Bool.true_or]
      exact ⟨rfl, w.trans x1.low⟩
theorem ol6 (S0 : St) (c : Cfg) (q : Pl) (hs : c.spans = true) (hh : 1 ≤ c.hosts ∧ c.hosts ≤ 6) (hn : c.entries.length ≤ 2 ^ 60) (het : ∀ e ∈ c.entries, e.t < 4294967296) (hro : ∀ e ∈ c.entries, badRoute c e = false) {bc : Nat} (hW : W.heap.size ≤ bc) (hb0 : S0.heap bc = .row (ccs c q) 0) (g0 : Gd W S0) (hq0 : vlt S0.c (cvl c q) = true) (rd0 : Rd NT W S0 (.slice q.ae c.entries.length q.ce) c.entries) (n : Nat) : ∀ (j : Nat) (hj : n + j = c.entries.length) (S : St) (g : Gd W S) (w : Low S0 S) (y0 y3 y11 y12 y13 y14 y15 y16 y17 y18 : Value),
    Wp (bindO (l37_11010 W y0 (.int .i64 6) (.pointer (some ⟨bc, 0, none⟩)) y3 (.int .i64 (j : Int)) y11 y12 y13 y14 y15 y16 y17 y18 S) (kc W c37 [1, 1, 0, 1, 0] f37)) (fun r => r.1 = .bool ((c.entries.drop j).any (badTime c)) ∧ Low S0 r.2) := by
  have hbc := row_lt g0.ok hb0
  induction n with
  | zero =>
    intro j hj S g w y0 y3 y11 y12 y13 y14 y15 y16 y17 y18
    have hb := (w.2.2 bc hbc).trans hb0
    rw [d6 g c q hb hW j (by omega), List.drop_eq_nil_of_le (by omega)]
    exact Wp.leaf rfl w
  | succ n ih =>
    intro j hj S g w y0 y3 y11 y12 y13 y14 y15 y16 y17 y18
    have hjl : j < c.entries.length := by omega
    have hb := (w.2.2 bc hbc).trans hb0
    have hq := vlt_mono w.2.1 hq0
    have rd := rd0.low w
    have rd' := rd
    have ih := ih (j + 1) (by omega)
    obtain ⟨bl, ol, cp, e, hbS, hr⟩ := rd.at (by omega)
    have eA : q.ae = some ⟨bl, ol, none⟩ := by injection e
    have e5 := (hr j hjl).1
    have hma := List.getElem_mem hjl
    rw [show NT.k = 4 from rfl, show NT.cs c.entries[j] = [.int .i64 c.entries[j].f, .int .u32 (c.entries[j].t : Int), .int .i64 c.entries[j].ph, .int .i64 c.entries[j].sz] from rfl] at e5
    rw [List.drop_eq_getElem_cons hjl]
    rw [List.any_cons]
    clear hr e
    generalize c.entries[j] = a at *
    have g1 : Gd W (S.new (.row [.int .i64 a.f, .int .u32 (a.t : Int), .int .i64 a.ph, .int .i64 a.sz] 0)) := g.new rfl
    have x1 : Ext [] S (S.new (.row [.int .i64 a.f, .int .u32 (a.t : Int), .int .i64 a.ph, .int .i64 a.sz] 0)) := Ext.new g.ok rfl
    have hlt := row_lt g.ok hb
    refine o6 g c q hq hs hh hb hW a (het a hma) bl ol eA j hjl (by omega) e5 (hro a hma) (fun hx => ?_) (fun hx => ?_) _ _ _ _ _ _ _ _ _ _
    · intro z0 z1 z2 z3 z4 z5 z6 z7 z8 z9 z10 z11 z12 z13 z14 z15 z16 z17 z18 z19 z20 z21 z22 z23 z24 z25 z26 z27 z28 z29 z30 z31 z32 z33 z34 z35 z36 z37 z38 z39 z40 z41 z42 z43 z44 z45 z46 z47 z48 z49 z50 z51 z52 z53 z54 z55 z56 z57 z58 z59 z60
      have xx := x6 g1 j 0 S.c (by omega) (bc := bc) z0 z1 z2 z3 z4 z5 z6 z7 z8 z9 z10 z11 z12 z13 z14 z15 z16 z17 z18 z19 z20 z21 z22 z23 z24 z25 z26 z27 z28 z29 z30 z31 z32 z33 z34 z35 z36 z37 z38 z39 z40 z41 z42 z43 z44 z45 z46 z47 z48 z49 z50 z51 z52 z53 z54 z55 z56 z57 z58 z59 z60
      rw [cast0] at xx
      rw [xx, hx, Bool.false_or]
      exact ih _ g1 (w.trans x1.low) _ _ _ _ _ _ _ _ _ _
    · rw [hx, Bool.true_or]
      exact ⟨rfl, w.trans x1.low⟩
theorem ol7 (S0 : St) (c : Cfg) (q : Pl) (hs : c.spans = true) (hh : 1 ≤ c.hosts ∧ c.hosts ≤ 6) (hn : c.entries.length ≤ 2 ^ 60) (het : ∀ e ∈ c.entries, e.t < 4294967296) (hph : ∀ e ∈ c.entries, -1125899906842624 ≤ e.ph ∧ e.ph ≤ 1125899906842624) {bc : Nat} (hW : W.heap.size ≤ bc) (hb0 : S0.heap bc = .row (ccs c q) 0) (g0 : Gd W S0) (hq0 : vlt S0.c (cvl c q) = true) (rd0 : Rd NT W S0 (.slice q.ae c.entries.length q.ce) c.entries) (n : Nat) : ∀ (j : Nat) (hj : n + j = c.entries.length) (S : St) (g : Gd W S) (w : Low S0 S) (y0 y3 y11 y12 y13 y14 y15 y16 y17 y18 : Value),
    Wp (bindO (l37_11010 W y0 (.int .i64 7) (.pointer (some ⟨bc, 0, none⟩)) y3 (.int .i64 (j : Int)) y11 y12 y13 y14 y15 y16 y17 y18 S) (kc W c37 [1, 1, 0, 1, 0] f37)) (fun r => r.1 = .bool (pairsB same (c.entries.take j) (c.entries.drop j)) ∧ Low S0 r.2) := by
  have hbc := row_lt g0.ok hb0
  induction n with
  | zero =>
    intro j hj S g w y0 y3 y11 y12 y13 y14 y15 y16 y17 y18
    have hb := (w.2.2 bc hbc).trans hb0
    rw [d7 g c q hb hW j (by omega), List.drop_eq_nil_of_le (by omega)]
    exact Wp.leaf rfl w
  | succ n ih =>
    intro j hj S g w y0 y3 y11 y12 y13 y14 y15 y16 y17 y18
    have hjl : j < c.entries.length := by omega
    have hb := (w.2.2 bc hbc).trans hb0
    have hq := vlt_mono w.2.1 hq0
    have rd := rd0.low w
    have rd' := rd
    have ih := ih (j + 1) (by omega)
    obtain ⟨bl, ol, cp, e, hbS, hr⟩ := rd.at (by omega)
    have eA : q.ae = some ⟨bl, ol, none⟩ := by injection e
    have e5 := (hr j hjl).1
    have hma := List.getElem_mem hjl
    rw [show NT.k = 4 from rfl, show NT.cs c.entries[j] = [.int .i64 c.entries[j].f, .int .u32 (c.entries[j].t : Int), .int .i64 c.entries[j].ph, .int .i64 c.entries[j].sz] from rfl] at e5
    rw [List.drop_eq_getElem_cons hjl]
    rw [take_succ' c.entries j hjl] at ih
    rw [pairsB]
    clear hr e
    generalize c.entries[j] = a at *
    have g1 : Gd W (S.new (.row [.int .i64 a.f, .int .u32 (a.t : Int), .int .i64 a.ph, .int .i64 a.sz] 0)) := g.new rfl
    have x1 : Ext [] S (S.new (.row [.int .i64 a.f, .int .u32 (a.t : Int), .int .i64 a.ph, .int .i64 a.sz] 0)) := Ext.new g.ok rfl
    have hlt := row_lt g.ok hb
    refine o7 g c q hq hs hh hb hW a (het a hma) bl ol eA j hjl (by omega) e5 ?_ _ _ _ _ _ _ _ _ _ _
    intro z0 z3 z11 z12 z13 z14 z15 z16 z17 z18 z19 z20 z21 z22 z23 z24 z25 z26 z27 z28 z29 z30 z31 z32 z33 z34 z35 z36 z37 z38 z39 z40 z41 z42 z43 z44 z45 z46 z47 z48 z49 z50 z51 z52 z53 z54 z55 z56 z57 z58 z59 z60 z61 z62 z63 z64 z65 z66 z67 z68 z69
    refine il7 _ c q hs hh hn het hph hW (by have := g.n; omega) ((new_lo _ hlt).trans hb) g1 a hma (new_self _) (vlt_mono (by simp only [new_c]; omega) hq) (rd'.low x1.low) j (by omega) z0 z3 z11 z12 z13 z14 z15 z16 z17 z18 ?_ ?_ j 0 (by omega) (by rw [List.drop_zero]) _ g1 (Low.rfl' _) _ _ _ _ _ _ _ _ _ _ _ _ _ _ _ _ _ _ _ _ _ _ _ _ _ _ _ _ _ _ _ _ _ _ _ _ _ _ _ _ _ _ _ _ _ _ _ _ _ _ _
    · intro hx U gU wU
      rw [hx, Bool.false_or]
      exact ih U gU (w.trans (x1.low.trans wU)) _ _ _ _ _ _ _ _ _ _
    · intro hx U wU
      rw [hx, Bool.true_or]
      exact ⟨rfl, w.trans (x1.low.trans wU)⟩
theorem ol8 (S0 : St) (c : Cfg) (q : Pl) (hs : c.spans = true) (hh : 1 ≤ c.hosts ∧ c.hosts ≤ 6) (hn : c.entries.length ≤ 2 ^ 60) (het : ∀ e ∈ c.entries, e.t < 4294967296) (hph : ∀ e ∈ c.entries, -1125899906842624 ≤ e.ph ∧ e.ph ≤ 1125899906842624) (hfw : ∀ e ∈ c.entries, forward c e = e.ph + tm e.sz + c.delay + 2 * c.prec) {bc : Nat} (hW : W.heap.size ≤ bc) (hb0 : S0.heap bc = .row (ccs c q) 0) (g0 : Gd W S0) (hq0 : vlt S0.c (cvl c q) = true) (rd0 : Rd NT W S0 (.slice q.ae c.entries.length q.ce) c.entries) (n : Nat) : ∀ (j : Nat) (hj : n + j = c.entries.length) (S : St) (g : Gd W S) (w : Low S0 S) (y0 y3 y11 y12 y13 y14 y15 y16 y17 y18 : Value),
    Wp (bindO (l37_11010 W y0 (.int .i64 8) (.pointer (some ⟨bc, 0, none⟩)) y3 (.int .i64 (j : Int)) y11 y12 y13 y14 y15 y16 y17 y18 S) (kc W c37 [1, 1, 0, 1, 0] f37)) (fun r => r.1 = .bool (pairsB (both c) (c.entries.take j) (c.entries.drop j)) ∧ Low S0 r.2) := by
  have hbc := row_lt g0.ok hb0
  induction n with
  | zero =>
    intro j hj S g w y0 y3 y11 y12 y13 y14 y15 y16 y17 y18
    have hb := (w.2.2 bc hbc).trans hb0
    rw [d8 g c q hb hW j (by omega), List.drop_eq_nil_of_le (by omega)]
    exact Wp.leaf rfl w
  | succ n ih =>
    intro j hj S g w y0 y3 y11 y12 y13 y14 y15 y16 y17 y18
    have hjl : j < c.entries.length := by omega
    have hb := (w.2.2 bc hbc).trans hb0
    have hq := vlt_mono w.2.1 hq0
    have rd := rd0.low w
    have rd' := rd
    have ih := ih (j + 1) (by omega)
    obtain ⟨bl, ol, cp, e, hbS, hr⟩ := rd.at (by omega)
    have eA : q.ae = some ⟨bl, ol, none⟩ := by injection e
    have e5 := (hr j hjl).1
    have hma := List.getElem_mem hjl
    rw [show NT.k = 4 from rfl, show NT.cs c.entries[j] = [.int .i64 c.entries[j].f, .int .u32 (c.entries[j].t : Int), .int .i64 c.entries[j].ph, .int .i64 c.entries[j].sz] from rfl] at e5
    rw [List.drop_eq_getElem_cons hjl]
    rw [take_succ' c.entries j hjl] at ih
    rw [pairsB]
    clear hr e
    generalize c.entries[j] = a at *
    have g1 : Gd W (S.new (.row [.int .i64 a.f, .int .u32 (a.t : Int), .int .i64 a.ph, .int .i64 a.sz] 0)) := g.new rfl
    have x1 : Ext [] S (S.new (.row [.int .i64 a.f, .int .u32 (a.t : Int), .int .i64 a.ph, .int .i64 a.sz] 0)) := Ext.new g.ok rfl
    have hlt := row_lt g.ok hb
    refine o8 g c q hq hs hh hb hW a (het a hma) bl ol eA j hjl (by omega) e5 ?_ _ _ _ _ _ _ _ _ _ _
    intro z0 z3 z11 z12 z13 z14 z15 z16 z17 z18 z19 z20 z21 z22 z23 z24 z25 z26 z27 z28 z29 z30 z31 z32 z33 z34 z35 z36 z37 z38 z39 z40 z41 z42 z43 z44 z45 z46 z47 z48 z49 z50 z51 z52 z53 z54 z55 z56 z57 z58 z59 z60 z61 z62 z63 z64 z65 z66 z67 z68 z69
    refine il8 _ c q hs hh hn het hph hfw hW (by have := g.n; omega) ((new_lo _ hlt).trans hb) g1 a hma (new_self _) (vlt_mono (by simp only [new_c]; omega) hq) (rd'.low x1.low) j (by omega) z0 z3 z11 z12 z13 z14 z15 z16 z17 z18 ?_ ?_ j 0 (by omega) (by rw [List.drop_zero]) _ g1 (Low.rfl' _) _ _ _ _ _ _ _ _ _ _ _ _ _ _ _ _ _ _ _ _ _ _ _ _ _ _ _ _ _ _ _ _ _ _ _ _ _ _ _ _ _ _ _ _ _ _ _ _ _ _ _
    · intro hx U gU wU
      rw [hx, Bool.false_or]
      exact ih U gU (w.trans (x1.low.trans wU)) _ _ _ _ _ _ _ _ _ _
    · intro hx U wU
      rw [hx, Bool.true_or]
      exact ⟨rfl, w.trans (x1.low.trans wU)⟩
theorem REnt5 {S : St} (g : Gd W S) (c : Cfg) (q : Pl) (h : CfgAt W S c q) (hs : c.spans = true) (hh : 1 ≤ c.hosts ∧ c.hosts ≤ 6) (hn : c.entries.length ≤ 2 ^ 60) : cw W 37 #[cvl c q, .int .i64 5] S = some (.bool ((decide (16 < c.entries.length)) || c.entries.any (badRoute c)), S) := by
  rw [eq37]
  have hN := g.n; have hL : S.lock ≤ S.c := g.ok.1
  have hq := h.vlt
  have g1 := g.new (o := .row [Value.int .i64 c.hosts, .int .i64 c.cycle, .int .i64 c.delay, .int .i64 c.window, .int .i64 c.prec, .slice q.ad c.delays.length q.cd, .slice q.ae c.entries.length q.ce, .slice q.al c.links.length q.cl, .int .i64 c.queue] 0) (objLt_mono (Nat.le_succ _) (cvl_obj hq))
  have hq1 : vlt (S.c + 1) (cvl c q) = true := vlt_mono (by omega) hq
  have ha : [cvl c q, .int .i64 5].all (vlt S.c) = true := by rw [List.all_cons, hq]; rfl
  have lw : Low S (S.new (.row [Value.int .i64 c.hosts, .int .i64 c.cycle, .int .i64 c.delay, .int .i64 c.window, .int .i64 c.prec, .slice q.ad c.delays.length q.cd, .slice q.ae c.entries.length q.ce, .slice q.al c.links.length q.cl, .int .i64 c.queue] 0)) := Low.new (Low.rfl' S) _
  have lp := fun y0 y3 y11 y12 y13 y14 y15 y16 y17 y18 => ol5 _ c q hs hh hn h.et hN (new_self _) g1 hq1 (h.low lw).ent c.entries.length 0 rfl _ g1 (Low.rfl' _) y0 y3 y11 y12 y13 y14 y15 y16 y17 y18
  rw [cast0, List.drop_zero] at lp
  refine gcR_wp (args := [_, _]) g ha rfl ?_
  by_cases h16 : 16 < c.entries.length
  · have h16' : (16 : Int) < (c.entries.length : Int) := by omega
    rw [decide_eq_true h16, Bool.true_or]
    simp -implicitDefEqProofs (maxSteps := 1000000) (disch := (refine id ?_; first | ((first | fail); (first | fail)) | ((fail_if_success (with_reducible apply isT_of)); (fail_if_success (first | fail)); first | omega | (with_reducible refine Low.new ?_ _; (repeat (first | refine Low.upd ?_ (by (first | omega )) _)); done) | (with_reducible refine Low.upd ?_ (by (first | omega )) _; (repeat (first | refine Low.upd ?_ (by (first | omega )) _)); done) | (with_reducible refine Gd.new ?_ (by (simp only [objLt_row, objLt_dead, List.all_cons, List.all_nil, vlt1_int, vlt1_bool, vlt1_string, vlt1_nilp, vlt1_nils, vlt1_ptr, vlt1_sl, vlt1_func, vlt0_ptr, vlt0_sl, vlt0_int, vlt0_bool, vlt0_string, vlt0_nilp, vlt0_nils, vlt_int, vlt_bool, vlt_string, vlt_nilp, vlt_nils, vlt_ptr, vlt_sl, vlt_agg, vlt_func, List.toArray, Bool.and_true, Bool.true_and, Bool.and_self, Bool.and_eq_true, decide_eq_true_eq, and_true, true_and, new_c, upd_c, relock_c] <;> omega)); (repeat (first | refine Gd.upd ?_ (by (first | omega )) (by (simp only [objLt_row, objLt_dead, List.all_cons, List.all_nil, vlt1_int, vlt1_bool, vlt1_string, vlt1_nilp, vlt1_nils, vlt1_ptr, vlt1_sl, vlt1_func, vlt0_ptr, vlt0_sl, vlt0_int, vlt0_bool, vlt0_string, vlt0_nilp, vlt0_nils, vlt_int, vlt_bool, vlt_string, vlt_nilp, vlt_nils, vlt_ptr, vlt_sl, vlt_agg, vlt_func, List.toArray, Bool.and_true, Bool.true_and, Bool.and_self, Bool.and_eq_true, decide_eq_true_eq, and_true, true_and, new_c, upd_c, relock_c] <;> omega)) )); done) | (with_reducible refine Gd.upd ?_ (by (first | omega )) (by (simp only [objLt_row, objLt_dead, List.all_cons, List.all_nil, vlt1_int, vlt1_bool, vlt1_string, vlt1_nilp, vlt1_nils, vlt1_ptr, vlt1_sl, vlt1_func, vlt0_ptr, vlt0_sl, vlt0_int, vlt0_bool, vlt0_string, vlt0_nilp, vlt0_nils, vlt_int, vlt_bool, vlt_string, vlt_nilp, vlt_nils, vlt_ptr, vlt_sl, vlt_agg, vlt_func, List.toArray, Bool.and_true, Bool.true_and, Bool.and_self, Bool.and_eq_true, decide_eq_true_eq, and_true, true_and, new_c, upd_c, relock_c] <;> omega)); (repeat (first | refine Gd.upd ?_ (by (first | omega )) (by (simp only [objLt_row, objLt_dead, List.all_cons, List.all_nil, vlt1_int, vlt1_bool, vlt1_string, vlt1_nilp, vlt1_nils, vlt1_ptr, vlt1_sl, vlt1_func, vlt0_ptr, vlt0_sl, vlt0_int, vlt0_bool, vlt0_string, vlt0_nilp, vlt0_nils, vlt_int, vlt_bool, vlt_string, vlt_nilp, vlt_nils, vlt_ptr, vlt_sl, vlt_agg, vlt_func, List.toArray, Bool.and_true, Bool.true_and, Bool.and_self, Bool.and_eq_true, decide_eq_true_eq, and_true, true_and, new_c, upd_c, relock_c] <;> omega)) )); done) | (with_reducible refine Gd.relock2 ?_ ?_; rotate_left; simp only [new_c, upd_c, relock_c]; (repeat (first | refine Gd.upd ?_ (by (first | omega )) (by (simp only [objLt_row, objLt_dead, List.all_cons, List.all_nil, vlt1_int, vlt1_bool, vlt1_string, vlt1_nilp, vlt1_nils, vlt1_ptr, vlt1_sl, vlt1_func, vlt0_ptr, vlt0_sl, vlt0_int, vlt0_bool, vlt0_string, vlt0_nilp, vlt0_nils, vlt_int, vlt_bool, vlt_string, vlt_nilp, vlt_nils, vlt_ptr, vlt_sl, vlt_agg, vlt_func, List.toArray, Bool.and_true, Bool.true_and, Bool.and_self, Bool.and_eq_true, decide_eq_true_eq, and_true, true_and, new_c, upd_c, relock_c] <;> omega)) )); done) | (with_reducible refine nat_eq_id ?_; first | fail) | (with_reducible refine Rd.low (by with_reducible assumption) ?_; (repeat (first | refine Low.upd ?_ (by (first | omega )) _)); done) | ((first | fail); simp only [IsT, decide_eq_true_eq, Bool.and_eq_true, Bool.or_eq_true, Bool.not_eq_true', decide_eq_false_iff_not] at *; omega) | fail))) only [h16', ↓bindV_some, ↓bindS_some, ↓condB_true, ↓wO_true, bindV_some, bindS_some, ↓gV_t, ↓condK_B, wO_true, pick_bool, bin_gtr, bin_eql, box_agg, cell_at, cellOf_row, nth_zero, nth_succ, eq_self, new_at, decide_true, Nat.zero_add, ↓reduceIte, ld_23, len_23, fa_26_6]
    exact Wp.leaf rfl lw
  · have h16' : ¬ (16 : Int) < (c.entries.length : Int) := by omega
    rw [decide_eq_false h16, Bool.false_or]
    simp -implicitDefEqProofs (maxSteps := 1000000) (disch := (refine id ?_; first | ((first | fail); (first | fail)) | ((fail_if_success (with_reducible apply isT_of)); (fail_if_success (first | fail)); first | omega | (with_reducible refine Low.new ?_ _; (repeat (first | refine Low.upd ?_ (by (first | omega )) _)); done) | (with_reducible refine Low.upd ?_ (by (first | omega )) _; (repeat (first | refine Low.upd ?_ (by (first | omega )) _)); done) | (with_reducible refine Gd.new ?_ (by (simp only [objLt_row, objLt_dead, List.all_cons, List.all_nil, vlt1_int, vlt1_bool, vlt1_string, vlt1_nilp, vlt1_nils, vlt1_ptr, vlt1_sl, vlt1_func, vlt0_ptr, vlt0_sl, vlt0_int, vlt0_bool, vlt0_string, vlt0_nilp, vlt0_nils, vlt_int, vlt_bool, vlt_string, vlt_nilp, vlt_nils, vlt_ptr, vlt_sl, vlt_agg, vlt_func, List.toArray, Bool.and_true, Bool.true_and, Bool.and_self, Bool.and_eq_true, decide_eq_true_eq, and_true, true_and, new_c, upd_c, relock_c] <;> omega)); (repeat (first | refine Gd.upd ?_ (by (first | omega )) (by (simp only [objLt_row, objLt_dead, List.all_cons, List.all_nil, vlt1_int, vlt1_bool, vlt1_string, vlt1_nilp, vlt1_nils, vlt1_ptr, vlt1_sl, vlt1_func, vlt0_ptr, vlt0_sl, vlt0_int, vlt0_bool, vlt0_string, vlt0_nilp, vlt0_nils, vlt_int, vlt_bool, vlt_string, vlt_nilp, vlt_nils, vlt_ptr, vlt_sl, vlt_agg, vlt_func, List.toArray, Bool.and_true, Bool.true_and, Bool.and_self, Bool.and_eq_true, decide_eq_true_eq, and_true, true_and, new_c, upd_c, relock_c] <;> omega)) )); done) | (with_reducible refine Gd.upd ?_ (by (first | omega )) (by (simp only [objLt_row, objLt_dead, List.all_cons, List.all_nil, vlt1_int, vlt1_bool, vlt1_string, vlt1_nilp, vlt1_nils, vlt1_ptr, vlt1_sl, vlt1_func, vlt0_ptr, vlt0_sl, vlt0_int, vlt0_bool, vlt0_string, vlt0_nilp, vlt0_nils, vlt_int, vlt_bool, vlt_string, vlt_nilp, vlt_nils, vlt_ptr, vlt_sl, vlt_agg, vlt_func, List.toArray, Bool.and_true, Bool.true_and, Bool.and_self, Bool.and_eq_true, decide_eq_true_eq, and_true, true_and, new_c, upd_c, relock_c] <;> omega)); (repeat (first | refine Gd.upd ?_ (by (first | omega )) (by (simp only [objLt_row, objLt_dead, List.all_cons, List.all_nil, vlt1_int, vlt1_bool, vlt1_string, vlt1_nilp, vlt1_nils, vlt1_ptr, vlt1_sl, vlt1_func, vlt0_ptr, vlt0_sl, vlt0_int, vlt0_bool, vlt0_string, vlt0_nilp, vlt0_nils, vlt_int, vlt_bool, vlt_string, vlt_nilp, vlt_nils, vlt_ptr, vlt_sl, vlt_agg, vlt_func, List.toArray, Bool.and_true, Bool.true_and, Bool.and_self, Bool.and_eq_true, decide_eq_true_eq, and_true, true_and, new_c, upd_c, relock_c] <;> omega)) )); done) | (with_reducible refine Gd.relock2 ?_ ?_; rotate_left; simp only [new_c, upd_c, relock_c]; (repeat (first | refine Gd.upd ?_ (by (first | omega )) (by (simp only [objLt_row, objLt_dead, List.all_cons, List.all_nil, vlt1_int, vlt1_bool, vlt1_string, vlt1_nilp, vlt1_nils, vlt1_ptr, vlt1_sl, vlt1_func, vlt0_ptr, vlt0_sl, vlt0_int, vlt0_bool, vlt0_string, vlt0_nilp, vlt0_nils, vlt_int, vlt_bool, vlt_string, vlt_nilp, vlt_nils, vlt_ptr, vlt_sl, vlt_agg, vlt_func, List.toArray, Bool.and_true, Bool.true_and, Bool.and_self, Bool.and_eq_true, decide_eq_true_eq, and_true, true_and, new_c, upd_c, relock_c] <;> omega)) )); done) | (with_reducible refine nat_eq_id ?_; first | fail) | (with_reducible refine Rd.low (by with_reducible assumption) ?_; (repeat (first | refine Low.upd ?_ (by (first | omega )) _)); done) | ((first | fail); simp only [IsT, decide_eq_true_eq, Bool.and_eq_true, Bool.or_eq_true, Bool.not_eq_true', decide_eq_false_iff_not] at *; omega) | fail))) only [h16', ↓bindV_some, ↓bindS_some, ↓condB_false, ↓wO_true, bindV_some, bindS_some, ↓gV_t, ↓condK_B, wO_true, pick_bool, bin_gtr, bin_eql, box_agg, cell_at, cellOf_row, nth_zero, nth_succ, eq_self, new_at, decide_true, decide_false, Nat.zero_add, ↓reduceIte, reduceCtorEq, ld_23, len_23, fa_26_6]
    exact (lp _ _ _ _ _ _ _ _ _ _).mono fun r h => ⟨h.1, lw.trans h.2⟩
theorem REnt6 {S : St} (g : Gd W S) (c : Cfg) (q : Pl) (h : CfgAt W S c q) (hs : c.spans = true) (hh : 1 ≤ c.hosts ∧ c.hosts ≤ 6) (hn : c.entries.length ≤ 2 ^ 60) (hro : ∀ e ∈ c.entries, badRoute c e = false) : cw W 37 #[cvl c q, .int .i64 6] S = some (.bool (c.entries.any (badTime c)), S) := by
  rw [eq37]
  have hN := g.n; have hL : S.lock ≤ S.c := g.ok.1
  have hq := h.vlt
  have g1 := g.new (o := .row [Value.int .i64 c.hosts, .int .i64 c.cycle, .int .i64 c.delay, .int .i64 c.window, .int .i64 c.prec, .slice q.ad c.delays.length q.cd, .slice q.ae c.entries.length q.ce, .slice q.al c.links.length q.cl, .int .i64 c.queue] 0) (objLt_mono (Nat.le_succ _) (cvl_obj hq))
  have hq1 : vlt (S.c + 1) (cvl c q) = true := vlt_mono (by omega) hq
  have ha : [cvl c q, .int .i64 6].all (vlt S.c) = true := by rw [List.all_cons, hq]; rfl
  have lw : Low S (S.new (.row [Value.int .i64 c.hosts, .int .i64 c.cycle, .int .i64 c.delay, .int .i64 c.window, .int .i64 c.prec, .slice q.ad c.delays.length q.cd, .slice q.ae c.entries.length q.ce, .slice q.al c.links.length q.cl, .int .i64 c.queue] 0)) := Low.new (Low.rfl' S) _
  have lp := fun y0 y3 y11 y12 y13 y14 y15 y16 y17 y18 => ol6 _ c q hs hh hn h.et hro hN (new_self _) g1 hq1 (h.low lw).ent c.entries.length 0 rfl _ g1 (Low.rfl' _) y0 y3 y11 y12 y13 y14 y15 y16 y17 y18
  rw [cast0, List.drop_zero] at lp
  refine gcR_wp (args := [_, _]) g ha rfl ?_
  simp -implicitDefEqProofs (maxSteps := 1000000) (disch := (refine id ?_; first | ((first | fail); (first | fail)) | ((fail_if_success (with_reducible apply isT_of)); (fail_if_success (first | fail)); first | (with_reducible refine Low.new ?_ _; (repeat (first | refine Low.upd ?_ (by (first | fail)) _)); done) | (with_reducible refine Low.upd ?_ (by (first | fail)) _; (repeat (first | refine Low.upd ?_ (by (first | fail)) _)); done) | (with_reducible refine Gd.new ?_ (by (simp only [objLt_row, objLt_dead, List.all_cons, List.all_nil, vlt1_int, vlt1_bool, vlt1_string, vlt1_nilp, vlt1_nils, vlt1_ptr, vlt1_sl, vlt1_func, vlt0_ptr, vlt0_sl, vlt0_int, vlt0_bool, vlt0_string, vlt0_nilp, vlt0_nils, vlt_int, vlt_bool, vlt_string, vlt_nilp, vlt_nils, vlt_ptr, vlt_sl, vlt_agg, vlt_func, List.toArray, Bool.and_true, Bool.true_and, Bool.and_self, Bool.and_eq_true, decide_eq_true_eq, and_true, true_and, new_c, upd_c, relock_c] <;> omega)); (repeat (first | refine Gd.upd ?_ (by (first | fail)) (by (simp only [objLt_row, objLt_dead, List.all_cons, List.all_nil, vlt1_int, vlt1_bool, vlt1_string, vlt1_nilp, vlt1_nils, vlt1_ptr, vlt1_sl, vlt1_func, vlt0_ptr, vlt0_sl, vlt0_int, vlt0_bool, vlt0_string, vlt0_nilp, vlt0_nils, vlt_int, vlt_bool, vlt_string, vlt_nilp, vlt_nils, vlt_ptr, vlt_sl, vlt_agg, vlt_func, List.toArray, Bool.and_true, Bool.true_and, Bool.and_self, Bool.and_eq_true, decide_eq_true_eq, and_true, true_and, new_c, upd_c, relock_c] <;> omega)) )); done) | (with_reducible refine Gd.upd ?_ (by (first | fail)) (by (simp only [objLt_row, objLt_dead, List.all_cons, List.all_nil, vlt1_int, vlt1_bool, vlt1_string, vlt1_nilp, vlt1_nils, vlt1_ptr, vlt1_sl, vlt1_func, vlt0_ptr, vlt0_sl, vlt0_int, vlt0_bool, vlt0_string, vlt0_nilp, vlt0_nils, vlt_int, vlt_bool, vlt_string, vlt_nilp, vlt_nils, vlt_ptr, vlt_sl, vlt_agg, vlt_func, List.toArray, Bool.and_true, Bool.true_and, Bool.and_self, Bool.and_eq_true, decide_eq_true_eq, and_true, true_and, new_c, upd_c, relock_c] <;> omega)); (repeat (first | refine Gd.upd ?_ (by (first | fail)) (by (simp only [objLt_row, objLt_dead, List.all_cons, List.all_nil, vlt1_int, vlt1_bool, vlt1_string, vlt1_nilp, vlt1_nils, vlt1_ptr, vlt1_sl, vlt1_func, vlt0_ptr, vlt0_sl, vlt0_int, vlt0_bool, vlt0_string, vlt0_nilp, vlt0_nils, vlt_int, vlt_bool, vlt_string, vlt_nilp, vlt_nils, vlt_ptr, vlt_sl, vlt_agg, vlt_func, List.toArray, Bool.and_true, Bool.true_and, Bool.and_self, Bool.and_eq_true, decide_eq_true_eq, and_true, true_and, new_c, upd_c, relock_c] <;> omega)) )); done) | (with_reducible refine Gd.relock2 ?_ ?_; rotate_left; simp only [new_c, upd_c, relock_c]; (repeat (first | refine Gd.upd ?_ (by (first | fail)) (by (simp only [objLt_row, objLt_dead, List.all_cons, List.all_nil, vlt1_int, vlt1_bool, vlt1_string, vlt1_nilp, vlt1_nils, vlt1_ptr, vlt1_sl, vlt1_func, vlt0_ptr, vlt0_sl, vlt0_int, vlt0_bool, vlt0_string, vlt0_nilp, vlt0_nils, vlt_int, vlt_bool, vlt_string, vlt_nilp, vlt_nils, vlt_ptr, vlt_sl, vlt_agg, vlt_func, List.toArray, Bool.and_true, Bool.true_and, Bool.and_self, Bool.and_eq_true, decide_eq_true_eq, and_true, true_and, new_c, upd_c, relock_c] <;> omega)) )); done) | (with_reducible refine nat_eq_id ?_; first | fail) | (with_reducible refine Rd.low (by with_reducible assumption) ?_; (repeat (first | refine Low.upd ?_ (by (first | fail)) _)); done) | ((first | fail); simp only [IsT, decide_eq_true_eq, Bool.and_eq_true, Bool.or_eq_true, Bool.not_eq_true', decide_eq_false_iff_not] at *; omega) | fail))) only [↓bindV_some, ↓bindS_some, ↓condB_false, ↓wO_false, bindV_some, bindS_some, ↓gV_t, ↓condK_B, wO_false, bin_eql, pick_false, box_agg, decide_false, Int.reduceEq, reduceCtorEq]
  exact (lp _ _ _ _ _ _ _ _ _ _).mono fun r h => ⟨h.1, lw.trans h.2⟩
theorem REnt7 {S : St} (g : Gd W S) (c : Cfg) (q : Pl) (h : CfgAt W S c q) (hs : c.spans = true) (hh : 1 ≤ c.hosts ∧ c.hosts ≤ 6) (hn : c.entries.length ≤ 2 ^ 60) (hph : ∀ e ∈ c.entries, -1125899906842624 ≤ e.ph ∧ e.ph ≤ 1125899906842624) : cw W 37 #[cvl c q, .int .i64 7] S = some (.bool (pairsB same [] c.entries), S) := by
  rw [eq37]
  have hN := g.n; have hL : S.lock ≤ S.c := g.ok.1
  have hq := h.vlt
  have g1 := g.new (o := .row [Value.int .i64 c.hosts, .int .i64 c.cycle, .int .i64 c.delay, .int .i64 c.window, .int .i64 c.prec, .slice q.ad c.delays.length q.cd, .slice q.ae c.entries.length q.ce, .slice q.al c.links.length q.cl, .int .i64 c.queue] 0) (objLt_mono (Nat.le_succ _) (cvl_obj hq))
  have hq1 : vlt (S.c + 1) (cvl c q) = true := vlt_mono (by omega) hq
  have ha : [cvl c q, .int .i64 7].all (vlt S.c) = true := by rw [List.all_cons, hq]; rfl
  have lw : Low S (S.new (.row [Value.int .i64 c.hosts, .int .i64 c.cycle, .int .i64 c.delay, .int .i64 c.window, .int .i64 c.prec, .slice q.ad c.delays.length q.cd, .slice q.ae c.entries.length q.ce, .slice q.al c.links.length q.cl, .int .i64 c.queue] 0)) := Low.new (Low.rfl' S) _
  have lp := fun y0 y3 y11 y12 y13 y14 y15 y16 y17 y18 => ol7 _ c q hs hh hn h.et hph hN (new_self _) g1 hq1 (h.low lw).ent c.entries.length 0 rfl _ g1 (Low.rfl' _) y0 y3 y11 y12 y13 y14 y15 y16 y17 y18
  rw [cast0, List.drop_zero] at lp
  refine gcR_wp (args := [_, _]) g ha rfl ?_
  simp -implicitDefEqProofs (maxSteps := 1000000) (disch := (refine id ?_; first | ((first | fail); (first | fail)) | ((fail_if_success (with_reducible apply isT_of)); (fail_if_success (first | fail)); first | (with_reducible refine Low.new ?_ _; (repeat (first | refine Low.upd ?_ (by (first | fail)) _)); done) | (with_reducible refine Low.upd ?_ (by (first | fail)) _; (repeat (first | refine Low.upd ?_ (by (first | fail)) _)); done) | (with_reducible refine Gd.new ?_ (by (simp only [objLt_row, objLt_dead, List.all_cons, List.all_nil, vlt1_int, vlt1_bool, vlt1_string, vlt1_nilp, vlt1_nils, vlt1_ptr, vlt1_sl, vlt1_func, vlt0_ptr, vlt0_sl, vlt0_int, vlt0_bool, vlt0_string, vlt0_nilp, vlt0_nils, vlt_int, vlt_bool, vlt_string, vlt_nilp, vlt_nils, vlt_ptr, vlt_sl, vlt_agg, vlt_func, List.toArray, Bool.and_true, Bool.true_and, Bool.and_self, Bool.and_eq_true, decide_eq_true_eq, and_true, true_and, new_c, upd_c, relock_c] <;> omega)); (repeat (first | refine Gd.upd ?_ (by (first | fail)) (by (simp only [objLt_row, objLt_dead, List.all_cons, List.all_nil, vlt1_int, vlt1_bool, vlt1_string, vlt1_nilp, vlt1_nils, vlt1_ptr, vlt1_sl, vlt1_func, vlt0_ptr, vlt0_sl, vlt0_int, vlt0_bool, vlt0_string, vlt0_nilp, vlt0_nils, vlt_int, vlt_bool, vlt_string, vlt_nilp, vlt_nils, vlt_ptr, vlt_sl, vlt_agg, vlt_func, List.toArray, Bool.and_true, Bool.true_and, Bool.and_self, Bool.and_eq_true, decide_eq_true_eq, and_true, true_and, new_c, upd_c, relock_c] <;> omega)) )); done) | (with_reducible refine Gd.upd ?_ (by (first | fail)) (by (simp only [objLt_row, objLt_dead, List.all_cons, List.all_nil, vlt1_int, vlt1_bool, vlt1_string, vlt1_nilp, vlt1_nils, vlt1_ptr, vlt1_sl, vlt1_func, vlt0_ptr, vlt0_sl, vlt0_int, vlt0_bool, vlt0_string, vlt0_nilp, vlt0_nils, vlt_int, vlt_bool, vlt_string, vlt_nilp, vlt_nils, vlt_ptr, vlt_sl, vlt_agg, vlt_func, List.toArray, Bool.and_true, Bool.true_and, Bool.and_self, Bool.and_eq_true, decide_eq_true_eq, and_true, true_and, new_c, upd_c, relock_c] <;> omega)); (repeat (first | refine Gd.upd ?_ (by (first | fail)) (by (simp only [objLt_row, objLt_dead, List.all_cons, List.all_nil, vlt1_int, vlt1_bool, vlt1_string, vlt1_nilp, vlt1_nils, vlt1_ptr, vlt1_sl, vlt1_func, vlt0_ptr, vlt0_sl, vlt0_int, vlt0_bool, vlt0_string, vlt0_nilp, vlt0_nils, vlt_int, vlt_bool, vlt_string, vlt_nilp, vlt_nils, vlt_ptr, vlt_sl, vlt_agg, vlt_func, List.toArray, Bool.and_true, Bool.true_and, Bool.and_self, Bool.and_eq_true, decide_eq_true_eq, and_true, true_and, new_c, upd_c, relock_c] <;> omega)) )); done) | (with_reducible refine Gd.relock2 ?_ ?_; rotate_left; simp only [new_c, upd_c, relock_c]; (repeat (first | refine Gd.upd ?_ (by (first | fail)) (by (simp only [objLt_row, objLt_dead, List.all_cons, List.all_nil, vlt1_int, vlt1_bool, vlt1_string, vlt1_nilp, vlt1_nils, vlt1_ptr, vlt1_sl, vlt1_func, vlt0_ptr, vlt0_sl, vlt0_int, vlt0_bool, vlt0_string, vlt0_nilp, vlt0_nils, vlt_int, vlt_bool, vlt_string, vlt_nilp, vlt_nils, vlt_ptr, vlt_sl, vlt_agg, vlt_func, List.toArray, Bool.and_true, Bool.true_and, Bool.and_self, Bool.and_eq_true, decide_eq_true_eq, and_true, true_and, new_c, upd_c, relock_c] <;> omega)) )); done) | (with_reducible refine nat_eq_id ?_; first | fail) | (with_reducible refine Rd.low (by with_reducible assumption) ?_; (repeat (first | refine Low.upd ?_ (by (first | fail)) _)); done) | ((first | fail); simp only [IsT, decide_eq_true_eq, Bool.and_eq_true, Bool.or_eq_true, Bool.not_eq_true', decide_eq_false_iff_not] at *; omega) | fail))) only [↓bindV_some, ↓bindS_some, ↓condB_false, ↓wO_false, bindV_some, bindS_some, ↓gV_t, ↓condK_B, wO_false, bin_eql, pick_false, box_agg, decide_false, Int.reduceEq, reduceCtorEq]
  exact (lp _ _ _ _ _ _ _ _ _ _).mono fun r h => ⟨h.1, lw.trans h.2⟩
theorem REnt8 {S : St} (g : Gd W S) (c : Cfg) (q : Pl) (h : CfgAt W S c q) (hs : c.spans = true) (hh : 1 ≤ c.hosts ∧ c.hosts ≤ 6) (hn : c.entries.length ≤ 2 ^ 60) (hph : ∀ e ∈ c.entries, -1125899906842624 ≤ e.ph ∧ e.ph ≤ 1125899906842624) (hfw : ∀ e ∈ c.entries, forward c e = e.ph + tm e.sz + c.delay + 2 * c.prec) : cw W 37 #[cvl c q, .int .i64 8] S = some (.bool (pairsB (both c) [] c.entries), S) := by
  rw [eq37]
  have hN := g.n; have hL : S.lock ≤ S.c := g.ok.1
  have hq := h.vlt
  have g1 := g.new (o := .row [Value.int .i64 c.hosts, .int .i64 c.cycle, .int .i64 c.delay, .int .i64 c.window, .int .i64 c.prec, .slice q.ad c.delays.length q.cd, .slice q.ae c.entries.length q.ce, .slice q.al c.links.length q.cl, .int .i64 c.queue] 0) (objLt_mono (Nat.le_succ _) (cvl_obj hq))
  have hq1 : vlt (S.c + 1) (cvl c q) = true := vlt_mono (by omega) hq
  have ha : [cvl c q, .int .i64 8].all (vlt S.c) = true := by rw [List.all_cons, hq]; rfl
  have lw : Low S (S.new (.row [Value.int .i64 c.hosts, .int .i64 c.cycle, .int .i64 c.delay, .int .i64 c.window, .int .i64 c.prec, .slice q.ad c.delays.length q.cd, .slice q.ae c.entries.length q.ce, .slice q.al c.links.length q.cl, .int .i64 c.queue] 0)) := Low.new (Low.rfl' S) _
  have lp := fun y0 y3 y11 y12 y13 y14 y15 y16 y17 y18 => ol8 _ c q hs hh hn h.et hph hfw hN (new_self _) g1 hq1 (h.low lw).ent c.entries.length 0 rfl _ g1 (Low.rfl' _) y0 y3 y11 y12 y13 y14 y15 y16 y17 y18
  rw [cast0, List.drop_zero] at lp
  refine gcR_wp (args := [_, _]) g ha rfl ?_
  simp -implicitDefEqProofs (maxSteps := 1000000) (disch := (refine id ?_; first | ((first | fail); (first | fail)) | ((fail_if_success (with_reducible apply isT_of)); (fail_if_success (first | fail)); first | (with_reducible refine Low.new ?_ _; (repeat (first | refine Low.upd ?_ (by (first | fail)) _)); done) | (with_reducible refine Low.upd ?_ (by (first | fail)) _; (repeat (first | refine Low.upd ?_ (by (first | fail)) _)); done) | (with_reducible refine Gd.new ?_ (by (simp only [objLt_row, objLt_dead, List.all_cons, List.all_nil, vlt1_int, vlt1_bool, vlt1_string, vlt1_nilp, vlt1_nils, vlt1_ptr, vlt1_sl, vlt1_func, vlt0_ptr, vlt0_sl, vlt0_int, vlt0_bool, vlt0_string, vlt0_nilp, vlt0_nils, vlt_int, vlt_bool, vlt_string, vlt_nilp, vlt_nils, vlt_ptr, vlt_sl, vlt_agg, vlt_func, List.toArray, Bool.and_true, Bool.true_and, Bool.and_self, Bool.and_eq_true, decide_eq_true_eq, and_true, true_and, new_c, upd_c, relock_c] <;> omega)); (repeat (first | refine Gd.upd ?_ (by (first | fail)) (by (simp only [objLt_row, objLt_dead, List.all_cons, List.all_nil, vlt1_int, vlt1_bool, vlt1_string, vlt1_nilp, vlt1_nils, vlt1_ptr, vlt1_sl, vlt1_func, vlt0_ptr, vlt0_sl, vlt0_int, vlt0_bool, vlt0_string, vlt0_nilp, vlt0_nils, vlt_int, vlt_bool, vlt_string, vlt_nilp, vlt_nils, vlt_ptr, vlt_sl, vlt_agg, vlt_func, List.toArray, Bool.and_true, Bool.true_and, Bool.and_self, Bool.and_eq_true, decide_eq_true_eq, and_true, true_and, new_c, upd_c, relock_c] <;> omega)) )); done) | (with_reducible refine Gd.upd ?_ (by (first | fail)) (by (simp only [objLt_row, objLt_dead, List.all_cons, List.all_nil, vlt1_int, vlt1_bool, vlt1_string, vlt1_nilp, vlt1_nils, vlt1_ptr, vlt1_sl, vlt1_func, vlt0_ptr, vlt0_sl, vlt0_int, vlt0_bool, vlt0_string, vlt0_nilp, vlt0_nils, vlt_int, vlt_bool, vlt_string, vlt_nilp, vlt_nils, vlt_ptr, vlt_sl, vlt_agg, vlt_func, List.toArray, Bool.and_true, Bool.true_and, Bool.and_self, Bool.and_eq_true, decide_eq_true_eq, and_true, true_and, new_c, upd_c, relock_c] <;> omega)); (repeat (first | refine Gd.upd ?_ (by (first | fail)) (by (simp only [objLt_row, objLt_dead, List.all_cons, List.all_nil, vlt1_int, vlt1_bool, vlt1_string, vlt1_nilp, vlt1_nils, vlt1_ptr, vlt1_sl, vlt1_func, vlt0_ptr, vlt0_sl, vlt0_int, vlt0_bool, vlt0_string, vlt0_nilp, vlt0_nils, vlt_int, vlt_bool, vlt_string, vlt_nilp, vlt_nils, vlt_ptr, vlt_sl, vlt_agg, vlt_func, List.toArray, Bool.and_true, Bool.true_and, Bool.and_self, Bool.and_eq_true, decide_eq_true_eq, and_true, true_and, new_c, upd_c, relock_c] <;> omega)) )); done) | (with_reducible refine Gd.relock2 ?_ ?_; rotate_left; simp only [new_c, upd_c, relock_c]; (repeat (first | refine Gd.upd ?_ (by (first | fail)) (by (simp only [objLt_row, objLt_dead, List.all_cons, List.all_nil, vlt1_int, vlt1_bool, vlt1_string, vlt1_nilp, vlt1_nils, vlt1_ptr, vlt1_sl, vlt1_func, vlt0_ptr, vlt0_sl, vlt0_int, vlt0_bool, vlt0_string, vlt0_nilp, vlt0_nils, vlt_int, vlt_bool, vlt_string, vlt_nilp, vlt_nils, vlt_ptr, vlt_sl, vlt_agg, vlt_func, List.toArray, Bool.and_true, Bool.true_and, Bool.and_self, Bool.and_eq_true, decide_eq_true_eq, and_true, true_and, new_c, upd_c, relock_c] <;> omega)) )); done) | (with_reducible refine nat_eq_id ?_; first | fail) | (with_reducible refine Rd.low (by with_reducible assumption) ?_; (repeat (first | refine Low.upd ?_ (by (first | fail)) _)); done) | ((first | fail); simp only [IsT, decide_eq_true_eq, Bool.and_eq_true, Bool.or_eq_true, Bool.not_eq_true', decide_eq_false_iff_not] at *; omega) | fail))) only [↓bindV_some, ↓bindS_some, ↓condB_false, ↓wO_false, bindV_some, bindS_some, ↓gV_t, ↓condK_B, wO_false, bin_eql, pick_false, box_agg, decide_false, Int.reduceEq, reduceCtorEq]
  exact (lp _ _ _ _ _ _ _ _ _ _).mono fun r h => ⟨h.1, lw.trans h.2⟩
end
end Go.Proofs.Ytogcdgdnjinjkaa.F
end
section
namespace Go.Proofs.Ytogcdgdnjinjkaa.F
open Go Go.Proofs.Ytogcdgdnjinjkaa.E
set_option linter.unusedVariables false
set_option linter.unusedSimpArgs false
section
variable {W : World} {S : St}
def queueN (c : Cfg) : Int := if inB c.queue 1 64 = false then 10 else 0
set_option maxRecDepth 100000 in
theorem lk_round (g : Gd W S) (c : Cfg) (q : Pl) (hq : vlt S.c (cvl c q) = true) {bc : Nat} (hb : S.heap bc = .row (ccs c q) 0) (hW : W.heap.size ≤ bc) (hh : 1 ≤ c.hosts ∧ c.hosts ≤ 6) (a : Lk) (hat : a.t < 4294967296) (bl ol : Nat) (eA : q.al = some ⟨bl, ol, none⟩) (j : Nat) (hj : j < c.links.length) (hn : c.links.length ≤ 2 ^ 60) (e5 : S.cells W ⟨bl, ol + j * 4, none⟩ 4 = some [.int .i64 a.f, .int .u32 (a.t : Int), .int .i64 a.gap, .int .i64 a.sz]) (y0 y3 y6 y7 y8 y9 y10 y11 y12 y13 y14 y15 y16 y17 y18 y19 y20 y21 y22 y23 y24 y25 y26 y27 y28 y29 y30 y31 y32 y33 y34 y35 y36 y37 y38 y39 y72 y73 y74 y75 y76 y77 y78 y79 : Value) :
    bindO (l12_1111111010 W y0 (.pointer (some ⟨bc, 0, none⟩)) y3 (.int .i64 (j : Int)) y6 y7 y8 y9 y10 y11 y12 y13 y14 y15 y16 y17 y18 y19 y20 y21 y22 y23 y24 y25 y26 y27 y28 y29 y30 y31 y32 y33 y34 y35 y36 y37 y38 y39 y72 y73 y74 y75 y76 y77 y78 y79 S) (kc W c12 [1, 1, 1, 1, 1, 1, 1, 0, 1, 0] f12) = if badLink c a = true then some (.int .i64 9, S.new (.row [.int .i64 a.f, .int .u32 (a.t : Int), .int .i64 a.gap, .int .i64 a.sz] 0)) else bindO (l12_1111111010 W y0 (.pointer (some ⟨bc, 0, none⟩)) y3 (.int .i64 ((j + 1 : Nat) : Int)) y6 y7 y8 y9 y10 y11 y12 y13 y14 y15 y16 y17 y18 y19 y20 y21 y22 y23 y24 y25 y26 y27 y28 y29 y30 y31 y32 y33 y34 y35 y36 y37 y38 y39 y72 y73 y74 y75 y76 y77 y78 y79 (S.new (.row [.int .i64 a.f, .int .u32 (a.t : Int), .int .i64 a.gap, .int .i64 a.sz] 0))) (kc W c12 [1, 1, 1, 1, 1, 1, 1, 0, 1, 0] f12) := by
  have hlt := row_lt g.ok hb
  have hxl : (j : Int) < (c.links.length : Int) := by omega
  have e2 : IntKind.i64.wrap ((j : Int) + 1) = ((j + 1 : Nat) : Int) := by rw [wrap64 (by omega) (by omega)]; omega
  have g1 : Gd W (S.new (.row [.int .i64 a.f, .int .u32 (a.t : Int), .int .i64 a.gap, .int .i64 a.sz] 0)) := g.new rfl
  have hb1 : (S.new (.row [.int .i64 a.f, .int .u32 (a.t : Int), .int .i64 a.gap, .int .i64 a.sz] 0)).heap bc = S.heap bc := new_lo _ hlt
  have er := RRoute_eq g1 c.hosts hh a.f a.t hat a.sz
  have hN := g.n; have hL : S.lock ≤ S.c := g.ok.1
  rw [r12_1111111010]
  cases hr : route c.hosts a.f a.t a.sz
  · have hbad : badLink c a = true := by unfold badLink; rw [hr]; rfl
    rw [hr] at er
    rw [if_pos hbad]
    simp -implicitDefEqProofs (maxSteps := 1000000) (disch := (refine id ?_; first | ((fail_if_success (with_reducible apply isT_of)); (fail_if_success (first | fail)); first | (refine Nat.le_trans hL ?_; simp +arith only [new_c, new_lock, upd_c, upd_lock, relock_c, relock_lock]; done) | omega | fail))) only [hb1, hb, hxl, eA, e5, er, k12_1111111010_ret, ↓bindV_some, ↓bindS_some, ↓bindT_some, ↓bindO_some, ↓condB_true, wV_false, ↓wO_false, bindV_some, bindS_some, bindT_some, bindO_some, ↓gV_f, wrap64, ↓condK_B, wO_false, wO_val, bin_add, bin_lss, un_not, pick_true, cell_at, put_cons, cellOf_row, putOf_row, nth_zero, nth_succ, aggOf_some, eq_self, new_upd, new_at, splice_nil, splice_cons, decide_true, Bool.not_true, Bool.not_false, Nat.zero_add, List.length_cons, List.length_nil, List.set_cons_zero, List.set_cons_succ, List.all_cons, List.all_nil, storable_int, Bool.and_self, Nat.reduceAdd, Int.toNat_natCast, ↓reduceIte, Nat.le_refl, call_38, ld_3, ld_24, len_24, ix_24, fa_26_0, fa_26_7, ld_30, fa_47_0, fa_47_1, fa_47_2, fa_47_3, ld_47, st_47, al_47]
  · rw [hr] at er
    by_cases h1 : a.gap < 1
    · have hbad : badLink c a = true := by unfold badLink inB; rw [decide_eq_false (by omega), Bool.not_false, Bool.or_true]
      rw [if_pos hbad]
      simp -implicitDefEqProofs (maxSteps := 1000000) (disch := (refine id ?_; first | ((fail_if_success (with_reducible apply isT_of)); (fail_if_success (first | fail)); first | (refine Nat.le_trans hL ?_; simp +arith only [new_c, new_lock, upd_c, upd_lock, relock_c, relock_lock]; done) | omega | fail))) only [hb1, hb, hxl, eA, e5, er, h1, k12_1111111010_ret, ↓bindV_some, ↓bindS_some, ↓bindT_some, ↓bindO_some, ↓condB_true, wV_true, wV_false, ↓wO_false, bindV_some, bindS_some, bindT_some, bindO_some, ↓gV_f, wrap64, ↓condK_B, wO_false, wO_val, pick_bool, bin_add, bin_lss, un_not, pick_true, cell_at, put_cons, cellOf_row, putOf_row, nth_zero, nth_succ, aggOf_some, eq_self, new_upd, new_at, splice_nil, splice_cons, decide_true, Bool.not_true, Bool.not_false, Nat.zero_add, List.length_cons, List.length_nil, List.set_cons_zero, List.set_cons_succ, List.all_cons, List.all_nil, storable_int, Bool.and_self, Nat.reduceAdd, Int.toNat_natCast, ↓reduceIte, Nat.le_refl, reduceCtorEq, call_38, ld_2, ld_3, ld_24, len_24, ix_24, fa_26_0, fa_26_7, ld_30, fa_47_0, fa_47_1, fa_47_2, fa_47_3, ld_47, st_47, al_47]
    · by_cases h2 : 1073741824 < a.gap
      · have hbad : badLink c a = true := by unfold badLink inB; rw [decide_eq_false (by omega), Bool.not_false, Bool.or_true]
        rw [if_pos hbad]
        simp -implicitDefEqProofs (maxSteps := 1000000) (disch := (refine id ?_; first | ((fail_if_success (with_reducible apply isT_of)); (fail_if_success (first | fail)); first | (refine Nat.le_trans hL ?_; simp +arith only [new_c, new_lock, upd_c, upd_lock, relock_c, relock_lock]; done) | omega | fail))) only [hb1, hb, hxl, eA, e5, er, h1, h2, k12_1111111010_ret, ↓bindV_some, ↓bindS_some, ↓bindT_some, ↓bindO_some, ↓condB_true, wV_true, bindV_some, bindS_some, bindT_some, bindO_some, ↓gV_f, wrap64, ↓condK_B, wO_val, pick_bool, bin_add, bin_lss, bin_gtr, un_not, cell_at, put_cons, cellOf_row, putOf_row, nth_zero, nth_succ, aggOf_some, eq_self, new_upd, new_at, splice_nil, splice_cons, decide_true, decide_false, Bool.not_true, Bool.not_false, Nat.zero_add, List.length_cons, List.length_nil, List.set_cons_zero, List.set_cons_succ, List.all_cons, List.all_nil, storable_int, Bool.and_self, Nat.reduceAdd, Int.toNat_natCast, ↓reduceIte, Nat.le_refl, reduceCtorEq, call_38, ld_2, ld_3, ld_24, len_24, ix_24, fa_26_0, fa_26_7, ld_30, fa_47_0, fa_47_1, fa_47_2, fa_47_3, ld_47, st_47, al_47]
      · have hbad : ¬ badLink c a = true := by unfold badLink inB; rw [hr, decide_eq_true (by omega)]; simp
        rw [if_neg hbad]
        simp -implicitDefEqProofs (maxSteps := 1000000) (disch := (refine id ?_; first | ((fail_if_success (with_reducible apply isT_of)); (fail_if_success (first | fail)); first | (refine Nat.le_trans hL ?_; simp +arith only [new_c, new_lock, upd_c, upd_lock, relock_c, relock_lock]; done) | omega | fail))) only [hb1, hb, hxl, eA, e5, er, e2, h1, h2, ↓bindV_some, ↓bindS_some, ↓bindT_some, ↓condB_true, ↓condB_false, wV_true, bindV_some, bindS_some, bindT_some, ↓gV_f, ↓condK_B, wO_val, pick_bool, bin_add, bin_lss, bin_gtr, un_not, cell_at, put_cons, cellOf_row, putOf_row, nth_zero, nth_succ, aggOf_some, eq_self, new_upd, new_at, splice_nil, splice_cons, decide_true, decide_false, Bool.not_true, Bool.not_false, Nat.zero_add, List.length_cons, List.length_nil, List.set_cons_zero, List.set_cons_succ, List.all_cons, List.all_nil, storable_int, Bool.and_self, Nat.reduceAdd, Int.toNat_natCast, ↓reduceIte, Nat.le_refl, reduceCtorEq, call_38, ld_2, ld_3, ld_24, len_24, ix_24, fa_26_0, fa_26_7, ld_30, fa_47_0, fa_47_1, fa_47_2, fa_47_3, ld_47, st_47, al_47]
set_option maxRecDepth 100000 in
theorem lk_end (g : Gd W S) (c : Cfg) (q : Pl) (hq : vlt S.c (cvl c q) = true) {bc : Nat} (hb : S.heap bc = .row (ccs c q) 0) (hW : W.heap.size ≤ bc) (j : Nat) (hj : ¬ j < c.links.length) (y0 y3 y6 y7 y8 y9 y10 y11 y12 y13 y14 y15 y16 y17 y18 y19 y20 y21 y22 y23 y24 y25 y26 y27 y28 y29 y30 y31 y32 y33 y34 y35 y36 y37 y38 y39 y72 y73 y74 y75 y76 y77 y78 y79 : Value) : bindO (l12_1111111010 W y0 (.pointer (some ⟨bc, 0, none⟩)) y3 (.int .i64 (j : Int)) y6 y7 y8 y9 y10 y11 y12 y13 y14 y15 y16 y17 y18 y19 y20 y21 y22 y23 y24 y25 y26 y27 y28 y29 y30 y31 y32 y33 y34 y35 y36 y37 y38 y39 y72 y73 y74 y75 y76 y77 y78 y79 S) (kc W c12 [1, 1, 1, 1, 1, 1, 1, 0, 1, 0] f12) = some (.int .i64 (queueN c), S) := by
  have hlt := row_lt g.ok hb
  have hxl : ¬ (j : Int) < (c.links.length : Int) := by omega
  have hN := g.n; have hL : S.lock ≤ S.c := g.ok.1
  rw [r12_1111111010]
  unfold queueN inB
  by_cases h1 : c.queue < 1
  · rw [if_pos (decide_eq_false (by omega))]
    simp -implicitDefEqProofs (maxSteps := 1000000) (disch := (refine id ?_; first | ((fail_if_success (with_reducible apply isT_of)); (fail_if_success (first | fail)); first | omega | fail))) only [hb, hxl, h1, k12_1111111010_2, ↓bindV_some, ↓bindS_some, ↓bindO_some, ↓condB_true, ↓condB_false, wV_false, ↓wO_false, bindV_some, bindS_some, bindO_some, ↓gV_f, ↓condK_B, wO_false, wO_val, bin_add, bin_lss, pick_true, cell_at, cellOf_row, nth_zero, nth_succ, eq_self, decide_true, decide_false, Bool.not_true, Nat.zero_add, reduceCtorEq, call_38, ld_3, ld_24, len_24, fa_26_0, fa_26_7, fa_26_8, ld_30, fa_47_0, fa_47_1, fa_47_2, fa_47_3, al_47]
  · by_cases h2 : 64 < c.queue
    · rw [if_pos (decide_eq_false (by omega))]
      simp -implicitDefEqProofs (maxSteps := 1000000) (disch := (refine id ?_; first | ((fail_if_success (with_reducible apply isT_of)); (fail_if_success (first | fail)); first | omega | fail))) only [hb, hxl, h1, h2, k12_1111111010_2, ↓bindV_some, ↓bindS_some, ↓bindO_some, ↓condB_true, ↓condB_false, wV_true, bindV_some, bindS_some, bindO_some, ↓gV_f, ↓condK_B, wO_val, pick_bool, bin_add, bin_lss, bin_gtr, cell_at, cellOf_row, nth_zero, nth_succ, eq_self, decide_true, decide_false, Bool.not_false, Nat.zero_add, ↓reduceIte, reduceCtorEq, call_38, ld_3, ld_24, len_24, fa_26_0, fa_26_7, fa_26_8, ld_30, fa_47_0, fa_47_1, fa_47_2, fa_47_3, al_47]
    · rw [if_neg (by rw [decide_eq_true (by omega)]; simp)]
      simp -implicitDefEqProofs (maxSteps := 1000000) (disch := (refine id ?_; first | ((fail_if_success (with_reducible apply isT_of)); (fail_if_success (first | fail)); first | omega | fail))) only [hb, hxl, h1, h2, k12_1111111010_2, ↓bindV_some, ↓bindS_some, ↓bindO_some, ↓condB_false, wV_true, bindV_some, bindS_some, bindO_some, ↓gV_f, ↓condK_B, wO_val, pick_bool, bin_add, bin_lss, bin_gtr, cell_at, cellOf_row, nth_zero, nth_succ, eq_self, decide_false, Bool.not_false, Nat.zero_add, ↓reduceIte, reduceCtorEq, call_38, ld_3, ld_24, len_24, fa_26_0, fa_26_7, fa_26_8, ld_30, fa_47_0, fa_47_1, fa_47_2, fa_47_3, al_47]
theorem lk_loop (S0 : St) (g0 : Gd W S0) (c : Cfg) (q : Pl) (hh : 1 ≤ c.hosts ∧ c.hosts ≤ 6) (h : CfgAt W S0 c q) {bc : Nat} (hb0 : S0.heap bc = .row (ccs c q) 0) (hW : W.heap.size ≤ bc) (n : Nat) : ∀ (j : Nat) (hj : n + j = c.links.length) (S : St) (g : Gd W S) (w : Low S0 S) (y0 y3 y6 y7 y8 y9 y10 y11 y12 y13 y14 y15 y16 y17 y18 y19 y20 y21 y22 y23 y24 y25 y26 y27 y28 y29 y30 y31 y32 y33 y34 y35 y36 y37 y38 y39 y72 y73 y74 y75 y76 y77 y78 y79 : Value),
    Wp (bindO (l12_1111111010 W y0 (.pointer (some ⟨bc, 0, none⟩)) y3 (.int .i64 (j : Int)) y6 y7 y8 y9 y10 y11 y12 y13 y14 y15 y16 y17 y18 y19 y20 y21 y22 y23 y24 y25 y26 y27 y28 y29 y30 y31 y32 y33 y34 y35 y36 y37 y38 y39 y72 y73 y74 y75 y76 y77 y78 y79 S) (kc W c12 [1, 1, 1, 1, 1, 1, 1, 0, 1, 0] f12)) (fun r => r.1 = .int .i64 (if (c.links.drop j).any (badLink c) = true then 9 else queueN c) ∧ Low S0 r.2) := by
  have hbc := row_lt g0.ok hb0
  have hl60 := h.ll
  induction n with
  | zero =>
    intro j hj S g w y0 y3 y6 y7 y8 y9 y10 y11 y12 y13 y14 y15 y16 y17 y18 y19 y20 y21 y22 y23 y24 y25 y26 y27 y28 y29 y30 y31 y32 y33 y34 y35 y36 y37 y38 y39 y72 y73 y74 y75 y76 y77 y78 y79
    have hq := vlt_mono w.2.1 h.vlt
    rw [lk_end g c q hq ((w.2.2 bc hbc).trans hb0) hW j (by omega), List.drop_eq_nil_of_le (by omega)]
    exact Wp.leaf rfl w
  | succ n ih =>
    intro j hj S g w y0 y3 y6 y7 y8 y9 y10 y11 y12 y13 y14 y15 y16 y17 y18 y19 y20 y21 y22 y23 y24 y25 y26 y27 y28 y29 y30 y31 y32 y33 y34 y35 y36 y37 y38 y39 y72 y73 y74 y75 y76 y77 y78 y79
    have hjl : j < c.links.length := by omega
    have hb := (w.2.2 bc hbc).trans hb0
    have hq := vlt_mono w.2.1 h.vlt
    have ih := ih (j + 1) (by omega)
    obtain ⟨bl, ol, cp, e, hbS, hr⟩ := (h.lnk.low w).at (by omega)
    have eA : q.al = some ⟨bl, ol, none⟩ := by injection e
    have e5 := (hr j hjl).1
    have hma := List.getElem_mem hjl
    rw [show KT.k = 4 from rfl, show KT.cs c.links[j] = [.int .i64 c.links[j].f, .int .u32 (c.links[j].t : Int), .int .i64 c.links[j].gap, .int .i64 c.links[j].sz] from rfl] at e5
    rw [List.drop_eq_getElem_cons hjl, List.any_cons]
    clear hr e
    generalize c.links[j] = a at *
    have g1 : Gd W (S.new (.row [.int .i64 a.f, .int .u32 (a.t : Int), .int .i64 a.gap, .int .i64 a.sz] 0)) := g.new rfl
    have x1 : Ext [] S (S.new (.row [.int .i64 a.f, .int .u32 (a.t : Int), .int .i64 a.gap, .int .i64 a.sz] 0)) := Ext.new g.ok rfl
    rw [lk_round g c q hq hb hW hh a (h.lt a hma) bl ol eA j hjl (by omega) e5]
    cases hx : badLink c a
    · rw [if_neg (by simp), Bool.false_or]
      exact ih _ g1 (w.trans x1.low) _ _ _ _ _ _ _ _ _ _ _ _ _ _ _ _ _ _ _ _ _ _ _ _ _ _ _ _ _ _ _ _ _ _ _ _ _ _ _ _ _ _ _ _
    · rw [if_pos rfl, Bool.true_or, if_pos rfl]
      exact Wp.leaf rfl (w.trans x1.low)
set_option maxRecDepth 100000 in
theorem cs5 (g : Gd W S) (c : Cfg) (q : Pl) (hq : vlt S.c (cvl c q) = true) {bc : Nat} (hb : S.heap bc = .row (ccs c q) 0) (hW : W.heap.size ≤ bc) (b : Bool) (he : cw W 37 #[cvl c q, .int .i64 5] S = some (.bool b, S)) (y0 y4 y5 y6 y7 y8 y9 y10 y11 y12 y13 y14 y15 y16 y17 y18 y19 y20 y21 y22 y23 y24 y25 y26 y27 y36 y37 y38 y39 y40 y41 y42 y43 y44 y45 y46 y47 y48 y49 y50 y51 y52 y53 y54 y55 y56 y57 y58 y59 y60 y61 y62 y63 y64 y65 y66 y67 y68 y69 y70 y71 y72 y73 y74 y75 y76 y77 y78 y79 : Value) :
    bindO (l12_11111010 W y0 (.pointer (some ⟨bc, 0, none⟩)) (.int .i64 5) y4 y5 y6 y7 y8 y9 y10 y11 y12 y13 y14 y15 y16 y17 y18 y19 y20 y21 y22 y23 y24 y25 y26 y27 y36 y37 y38 y39 y40 y41 y42 y43 y44 y45 y46 y47 y48 y49 y50 y51 y52 y53 y54 y55 y56 y57 y58 y59 y60 y61 y62 y63 y64 y65 y66 y67 y68 y69 y70 y71 y72 y73 y74 y75 y76 y77 y78 y79 S) (kc W c12 [1, 1, 1, 1, 1, 0, 1, 0] f12) = if b = true then some (.int .i64 5, S) else bindO (l12_11111010 W y0 (.pointer (some ⟨bc, 0, none⟩)) (.int .i64 6) y4 y5 y6 y7 y8 y9 y10 y11 y12 y13 y14 y15 y16 y17 y18 y19 y20 y21 y22 y23 y24 y25 y26 y27 y36 y37 y38 y39 y40 y41 y42 y43 y44 y45 y46 y47 y48 y49 y50 y51 y52 y53 y54 y55 y56 y57 y58 y59 y60 y61 y62 y63 y64 y65 y66 y67 y68 y69 y70 y71 y72 y73 y74 y75 y76 y77 y78 y79 S) (kc W c12 [1, 1, 1, 1, 1, 0, 1, 0] f12) := by
  have hlt := row_lt g.ok hb
  have hN := g.n; have hL : S.lock ≤ S.c := g.ok.1
  rw [r12_11111010]
  cases b
  · rw [if_neg (by simp)]
    simp -implicitDefEqProofs (maxSteps := 1000000) (disch := (refine id ?_; first | ((fail_if_success (with_reducible apply isT_of)); (fail_if_success (first | fail)); first | omega | fail))) only [hb, he, ↓bindV_some, ↓bindS_some, ↓condB_true, ↓condB_false, bindV_some, bindS_some, wrap64, ↓condK_B, bin_add, bin_leq, cells_at, cellsOf_row, aggOf_some, eq_self, decide_true, Nat.zero_add, List.length_cons, List.length_nil, List.drop_zero, List.take_succ_cons, List.take_zero, Nat.reduceAdd, Int.reduceLE, Int.reduceAdd, ↓reduceIte, Nat.le_refl, reduceCtorEq, call_37, ld_26]
  · rw [if_pos rfl]
    simp -implicitDefEqProofs (maxSteps := 1000000) (disch := (refine id ?_; first | ((fail_if_success (with_reducible apply isT_of)); (fail_if_success (first | fail)); first | omega | fail))) only [hb, he, k12_11111010_ret, ↓bindV_some, ↓bindS_some, ↓bindO_some, ↓condB_true, bindV_some, bindS_some, bindO_some, wrap64, ↓condK_B, bin_add, bin_leq, cells_at, cellsOf_row, aggOf_some, eq_self, decide_true, Nat.zero_add, List.length_cons, List.length_nil, List.drop_zero, List.take_succ_cons, List.take_zero, Nat.reduceAdd, Int.reduceLE, Int.reduceAdd, ↓reduceIte, Nat.le_refl, call_37, ld_26]
set_option maxRecDepth 100000 in
theorem cs6 (g : Gd W S) (c : Cfg) (q : Pl) (hq : vlt S.c (cvl c q) = true) {bc : Nat} (hb : S.heap bc = .row (ccs c q) 0) (hW : W.heap.size ≤ bc) (b : Bool) (he : cw W 37 #[cvl c q, .int .i64 6] S = some (.bool b, S)) (y0 y4 y5 y6 y7 y8 y9 y10 y11 y12 y13 y14 y15 y16 y17 y18 y19 y20 y21 y22 y23 y24 y25 y26 y27 y36 y37 y38 y39 y40 y41 y42 y43 y44 y45 y46 y47 y48 y49 y50 y51 y52 y53 y54 y55 y56 y57 y58 y59 y60 y61 y62 y63 y64 y65 y66 y67 y68 y69 y70 y71 y72 y73 y74 y75 y76 y77 y78 y79 : Value) :
    bindO (l12_11111010 W y0 (.pointer (some ⟨bc, 0, none⟩)) (.int .i64 6) y4 y5 y6 y7 y8 y9 y10 y11 y12 y13 y14 y15 y16 y17 y18 y19 y20 y21 y22 y23 y24 y25 y26 y27 y36 y37 y38 y39 y40 y41 y42 y43 y44 y45 y46 y47 y48 y49 y50 y51 y52 y53 y54 y55 y56 y57 y58 y59 y60 y61 y62 y63 y64 y65 y66 y67 y68 y69 y70 y71 y72 y73 y74 y75 y76 y77 y78 y79 S) (kc W c12 [1, 1, 1, 1, 1, 0, 1, 0] f12) = if b = true then some (.int .i64 6, S) else bindO (l12_11111010 W y0 (.pointer (some ⟨bc, 0, none⟩)) (.int .i64 7) y4 y5 y6 y7 y8 y9 y10 y11 y12 y13 y14 y15 y16 y17 y18 y19 y20 y21 y22 y23 y24 y25 y26 y27 y36 y37 y38 y39 y40 y41 y42 y43 y44 y45 y46 y47 y48 y49 y50 y51 y52 y53 y54 y55 y56 y57 y58 y59 y60 y61 y62 y63 y64 y65 y66 y67 y68 y69 y70 y71 y72 y73 y74 y75 y76 y77 y78 y79 S) (kc W c12 [1, 1, 1, 1, 1, 0, 1, 0] f12) := by
  have hlt := row_lt g.ok hb
  have hN := g.n; have hL : S.lock ≤ S.c := g.ok.1
  rw [r12_11111010]
  cases b
  · rw [if_neg (by simp)]
    simp -implicitDefEqProofs (maxSteps := 1000000) (disch := (refine id ?_; first | ((fail_if_success (with_reducible apply isT_of)); (fail_if_success (first | fail)); first | omega | fail))) only [hb, he, ↓bindV_some, ↓bindS_some, ↓condB_true, ↓condB_false, bindV_some, bindS_some, wrap64, ↓condK_B, bin_add, bin_leq, cells_at, cellsOf_row, aggOf_some, eq_self, decide_true, Nat.zero_add, List.length_cons, List.length_nil, List.drop_zero, List.take_succ_cons, List.take_zero, Nat.reduceAdd, Int.reduceLE, Int.reduceAdd, ↓reduceIte, Nat.le_refl, reduceCtorEq, call_37, ld_26]
  · rw [if_pos rfl]
    simp -implicitDefEqProofs (maxSteps := 1000000) (disch := (refine id ?_; first | ((fail_if_success (with_reducible apply isT_of)); (fail_if_success (first | fail)); first | omega | fail))) only [hb, he, k12_11111010_ret, ↓bindV_some, ↓bindS_some, ↓bindO_some, ↓condB_true, bindV_some, bindS_some, bindO_some, wrap64, ↓condK_B, bin_add, bin_leq, cells_at, cellsOf_row, aggOf_some, eq_self, decide_true, Nat.zero_add, List.length_cons, List.length_nil, List.drop_zero, List.take_succ_cons, List.take_zero, Nat.reduceAdd, Int.reduceLE, Int.reduceAdd, ↓reduceIte, Nat.le_refl, call_37, ld_26]
set_option maxRecDepth 100000 in
theorem cs7 (g : Gd W S) (c : Cfg) (q : Pl) (hq : vlt S.c (cvl c q) = true) {bc : Nat} (hb : S.heap bc = .row (ccs c q) 0) (hW : W.heap.size ≤ bc) (b : Bool) (he : cw W 37 #[cvl c q, .int .i64 7] S = some (.bool b, S)) (y0 y4 y5 y6 y7 y8 y9 y10 y11 y12 y13 y14 y15 y16 y17 y18 y19 y20 y21 y22 y23 y24 y25 y26 y27 y36 y37 y38 y39 y40 y41 y42 y43 y44 y45 y46 y47 y48 y49 y50 y51 y52 y53 y54 y55 y56 y57 y58 y59 y60 y61 y62 y63 y64 y65 y66 y67 y68 y69 y70 y71 y72 y73 y74 y75 y76 y77 y78 y79 : Value) :
    bindO (l12_11111010 W y0 (.pointer (some ⟨bc, 0, none⟩)) (.int .i64 7) y4 y5 y6 y7 y8 y9 y10 y11 y12 y13 y14 y15 y16 y17 y18 y19 y20 y21 y22 y23 y24 y25 y26 y27 y36 y37 y38 y39 y40 y41 y42 y43 y44 y45 y46 y47 y48 y49 y50 y51 y52 y53 y54 y55 y56 y57 y58 y59 y60 y61 y62 y63 y64 y65 y66 y67 y68 y69 y70 y71 y72 y73 y74 y75 y76 y77 y78 y79 S) (kc W c12 [1, 1, 1, 1, 1, 0, 1, 0] f12) = if b = true then some (.int .i64 7, S) else bindO (l12_11111010 W y0 (.pointer (some ⟨bc, 0, none⟩)) (.int .i64 8) y4 y5 y6 y7 y8 y9 y10 y11 y12 y13 y14 y15 y16 y17 y18 y19 y20 y21 y22 y23 y24 y25 y26 y27 y36 y37 y38 y39 y40 y41 y42 y43 y44 y45 y46 y47 y48 y49 y50 y51 y52 y53 y54 y55 y56 y57 y58 y59 y60 y61 y62 y63 y64 y65 y66 y67 y68 y69 y70 y71 y72 y73 y74 y75 y76 y77 y78 y79 S) (kc W c12 [1, 1, 1, 1, 1, 0, 1, 0] f12) := by
  have hlt := row_lt g.ok hb
  have hN := g.n; have hL : S.lock ≤ S.c := g.ok.1
  rw [r12_11111010]
  cases b
  · rw [if_neg (by simp)]
    simp -implicitDefEqProofs (maxSteps := 1000000) (disch := (refine id ?_; first | ((fail_if_success (with_reducible apply isT_of)); (fail_if_success (first | fail)); first | omega | fail))) only [hb, he, ↓bindV_some, ↓bindS_some, ↓condB_true, ↓condB_false, bindV_some, bindS_some, wrap64, ↓condK_B, bin_add, bin_leq, cells_at, cellsOf_row, aggOf_some, eq_self, decide_true, Nat.zero_add, List.length_cons, List.length_nil, List.drop_zero, List.take_succ_cons, List.take_zero, Nat.reduceAdd, Int.reduceLE, Int.reduceAdd, ↓reduceIte, Nat.le_refl, reduceCtorEq, call_37, ld_26]
  · rw [if_pos rfl]
    simp -implicitDefEqProofs (maxSteps := 1000000) (disch := (refine id ?_; first | ((fail_if_success (with_reducible apply isT_of)); (fail_if_success (first | fail)); first | omega | fail))) only [hb, he, k12_11111010_ret, ↓bindV_some, ↓bindS_some, ↓bindO_some, ↓condB_true, bindV_some, bindS_some, bindO_some, wrap64, ↓condK_B, bin_add, bin_leq, cells_at, cellsOf_row, aggOf_some, eq_self, decide_true, Nat.zero_add, List.length_cons, List.length_nil, List.drop_zero, List.take_succ_cons, List.take_zero, Nat.reduceAdd, Int.reduceLE, Int.reduceAdd, ↓reduceIte, Nat.le_refl, call_37, ld_26]
set_option maxRecDepth 100000 in
theorem cs8 (g : Gd W S) (c : Cfg) (q : Pl) (hq : vlt S.c (cvl c q) = true) {bc : Nat} (hb : S.heap bc = .row (ccs c q) 0) (hW : W.heap.size ≤ bc) (b : Bool) (he : cw W 37 #[cvl c q, .int .i64 8] S = some (.bool b, S)) (y0 y4 y5 y6 y7 y8 y9 y10 y11 y12 y13 y14 y15 y16 y17 y18 y19 y20 y21 y22 y23 y24 y25 y26 y27 y36 y37 y38 y39 y40 y41 y42 y43 y44 y45 y46 y47 y48 y49 y50 y51 y52 y53 y54 y55 y56 y57 y58 y59 y60 y61 y62 y63 y64 y65 y66 y67 y68 y69 y70 y71 y72 y73 y74 y75 y76 y77 y78 y79 : Value) :
    bindO (l12_11111010 W y0 (.pointer (some ⟨bc, 0, none⟩)) (.int .i64 8) y4 y5 y6 y7 y8 y9 y10 y11 y12 y13 y14 y15 y16 y17 y18 y19 y20 y21 y22 y23 y24 y25 y26 y27 y36 y37 y38 y39 y40 y41 y42 y43 y44 y45 y46 y47 y48 y49 y50 y51 y52 y53 y54 y55 y56 y57 y58 y59 y60 y61 y62 y63 y64 y65 y66 y67 y68 y69 y70 y71 y72 y73 y74 y75 y76 y77 y78 y79 S) (kc W c12 [1, 1, 1, 1, 1, 0, 1, 0] f12) = if b = true then some (.int .i64 8, S) else bindO (l12_11111010 W y0 (.pointer (some ⟨bc, 0, none⟩)) (.int .i64 9) y4 y5 y6 y7 y8 y9 y10 y11 y12 y13 y14 y15 y16 y17 y18 y19 y20 y21 y22 y23 y24 y25 y26 y27 y36 y37 y38 y39 y40 y41 y42 y43 y44 y45 y46 y47 y48 y49 y50 y51 y52 y53 y54 y55 y56 y57 y58 y59 y60 y61 y62 y63 y64 y65 y66 y67 y68 y69 y70 y71 y72 y73 y74 y75 y76 y77 y78 y79 S) (kc W c12 [1, 1, 1, 1, 1, 0, 1, 0] f12) := by
  have hlt := row_lt g.ok hb
  have hN := g.n; have hL : S.lock ≤ S.c := g.ok.1
  rw [r12_11111010]
  cases b
  · rw [if_neg (by simp)]
    simp -implicitDefEqProofs (maxSteps := 1000000) (disch := (refine id ?_; first | ((fail_if_success (with_reducible apply isT_of)); (fail_if_success (first | fail)); first | omega | fail))) only [hb, he, ↓bindV_some, ↓bindS_some, ↓condB_true, ↓condB_false, bindV_some, bindS_some, wrap64, ↓condK_B, bin_add, bin_leq, cells_at, cellsOf_row, aggOf_some, eq_self, decide_true, Nat.zero_add, List.length_cons, List.length_nil, List.drop_zero, List.take_succ_cons, List.take_zero, Nat.reduceAdd, Int.reduceLE, Int.reduceAdd, ↓reduceIte, Nat.le_refl, reduceCtorEq, call_37, ld_26]
  · rw [if_pos rfl]
    simp -implicitDefEqProofs (maxSteps := 1000000) (disch := (refine id ?_; first | ((fail_if_success (with_reducible apply isT_of)); (fail_if_success (first | fail)); first | omega | fail))) only [hb, he, k12_11111010_ret, ↓bindV_some, ↓bindS_some, ↓bindO_some, ↓condB_true, bindV_some, bindS_some, bindO_some, wrap64, ↓condK_B, bin_add, bin_leq, cells_at, cellsOf_row, aggOf_some, eq_self, decide_true, Nat.zero_add, List.length_cons, List.length_nil, List.drop_zero, List.take_succ_cons, List.take_zero, Nat.reduceAdd, Int.reduceLE, Int.reduceAdd, ↓reduceIte, Nat.le_refl, call_37, ld_26]
def linksN (c : Cfg) : Int := if 16 < c.links.length then 9 else if c.links.any (badLink c) = true then 9 else queueN c
set_option maxRecDepth 100000 in
theorem cs9 (g : Gd W S) (c : Cfg) (q : Pl) (hh : 1 ≤ c.hosts ∧ c.hosts ≤ 6) (h : CfgAt W S c q) {bc : Nat} (hb : S.heap bc = .row (ccs c q) 0) (hW : W.heap.size ≤ bc) (y0 y4 y5 y6 y7 y8 y9 y10 y11 y12 y13 y14 y15 y16 y17 y18 y19 y20 y21 y22 y23 y24 y25 y26 y27 y36 y37 y38 y39 y40 y41 y42 y43 y44 y45 y46 y47 y48 y49 y50 y51 y52 y53 y54 y55 y56 y57 y58 y59 y60 y61 y62 y63 y64 y65 y66 y67 y68 y69 y70 y71 y72 y73 y74 y75 y76 y77 y78 y79 : Value) : Wp (bindO (l12_11111010 W y0 (.pointer (some ⟨bc, 0, none⟩)) (.int .i64 9) y4 y5 y6 y7 y8 y9 y10 y11 y12 y13 y14 y15 y16 y17 y18 y19 y20 y21 y22 y23 y24 y25 y26 y27 y36 y37 y38 y39 y40 y41 y42 y43 y44 y45 y46 y47 y48 y49 y50 y51 y52 y53 y54 y55 y56 y57 y58 y59 y60 y61 y62 y63 y64 y65 y66 y67 y68 y69 y70 y71 y72 y73 y74 y75 y76 y77 y78 y79 S) (kc W c12 [1, 1, 1, 1, 1, 0, 1, 0] f12)) (fun r => r.1 = .int .i64 (linksN c) ∧ Low S r.2) := by
  have hlt := row_lt g.ok hb
  have lp := fun y0 y3 y6 y7 y8 y9 y10 y11 y12 y13 y14 y15 y16 y17 y18 y19 y20 y21 y22 y23 y24 y25 y26 y27 y28 y29 y30 y31 y32 y33 y34 y35 y36 y37 y38 y39 y72 y73 y74 y75 y76 y77 y78 y79 => lk_loop S g c q hh h hb hW c.links.length 0 rfl S g (Low.rfl' S) y0 y3 y6 y7 y8 y9 y10 y11 y12 y13 y14 y15 y16 y17 y18 y19 y20 y21 y22 y23 y24 y25 y26 y27 y28 y29 y30 y31 y32 y33 y34 y35 y36 y37 y38 y39 y72 y73 y74 y75 y76 y77 y78 y79
  rw [cast0, List.drop_zero] at lp
  unfold linksN
  have hN := g.n; have hL : S.lock ≤ S.c := g.ok.1
  rw [r12_11111010]
  by_cases h16 : 16 < c.links.length
  · have h16' : (16 : Int) < (c.links.length : Int) := by omega
    rw [if_pos h16]
    simp -implicitDefEqProofs (maxSteps := 1000000) (disch := (refine id ?_; first | ((fail_if_success (with_reducible apply isT_of)); (fail_if_success (first | fail)); first | omega | fail))) only [hb, h16', k12_11111010_0, ↓bindV_some, ↓bindO_some, ↓condB_true, ↓condB_false, bindV_some, bindO_some, wrap64, ↓condK_B, bin_add, bin_leq, bin_gtr, cell_at, cells_at, cellOf_row, cellsOf_row, nth_zero, nth_succ, aggOf_some, eq_self, decide_true, decide_false, Nat.zero_add, List.length_cons, List.length_nil, List.drop_zero, List.take_succ_cons, List.take_zero, Nat.reduceAdd, Int.reduceLE, Int.reduceAdd, ↓reduceIte, Nat.le_refl, reduceCtorEq, call_37, ld_24, len_24, fa_26_7, ld_26]
    exact Wp.leaf rfl (Low.rfl' S)
  · have h16' : ¬ (16 : Int) < (c.links.length : Int) := by omega
    rw [if_neg h16]
    simp -implicitDefEqProofs (maxSteps := 1000000) (disch := (refine id ?_; first | ((fail_if_success (with_reducible apply isT_of)); (fail_if_success (first | fail)); first | omega | fail))) only [hb, h16', k12_11111010_0, ↓bindV_some, ↓bindO_some, ↓condB_false, bindV_some, bindO_some, wrap64, ↓condK_B, bin_add, bin_leq, bin_gtr, cell_at, cells_at, cellOf_row, cellsOf_row, nth_zero, nth_succ, aggOf_some, decide_false, Nat.zero_add, List.length_cons, List.length_nil, List.drop_zero, List.take_succ_cons, List.take_zero, Nat.reduceAdd, Int.reduceLE, Int.reduceAdd, ↓reduceIte, Nat.le_refl, reduceCtorEq, call_37, ld_24, len_24, fa_26_7, ld_26]
    exact lp _ _ _ _ _ _ _ _ _ _ _ _ _ _ _ _ _ _ _ _ _ _ _ _ _ _ _ _ _ _ _ _ _ _ _ _ _ _ _ _ _ _ _ _
theorem cs_all (g : Gd W S) (c : Cfg) (q : Pl) (hs : c.spans = true) (hh : 1 ≤ c.hosts ∧ c.hosts ≤ 6) (hn : c.entries.length ≤ 2 ^ 60) (h : CfgAt W S c q) {bc : Nat} (hb : S.heap bc = .row (ccs c q) 0) (hW : W.heap.size ≤ bc) (y0 y4 y5 y6 y7 y8 y9 y10 y11 y12 y13 y14 y15 y16 y17 y18 y19 y20 y21 y22 y23 y24 y25 y26 y27 y36 y37 y38 y39 y40 y41 y42 y43 y44 y45 y46 y47 y48 y49 y50 y51 y52 y53 y54 y55 y56 y57 y58 y59 y60 y61 y62 y63 y64 y65 y66 y67 y68 y69 y70 y71 y72 y73 y74 y75 y76 y77 y78 y79 : Value) : Wp (bindO (l12_11111010 W y0 (.pointer (some ⟨bc, 0, none⟩)) (.int .i64 5) y4 y5 y6 y7 y8 y9 y10 y11 y12 y13 y14 y15 y16 y17 y18 y19 y20 y21 y22 y23 y24 y25 y26 y27 y36 y37 y38 y39 y40 y41 y42 y43 y44 y45 y46 y47 y48 y49 y50 y51 y52 y53 y54 y55 y56 y57 y58 y59 y60 y61 y62 y63 y64 y65 y66 y67 y68 y69 y70 y71 y72 y73 y74 y75 y76 y77 y78 y79 S) (kc W c12 [1, 1, 1, 1, 1, 0, 1, 0] f12)) (fun r => r.1 = .int .i64 (if scheduleN c ≠ 0 then scheduleN c else linksN c) ∧ Low S r.2) := by
  have hq := h.vlt
  have hcy : c.cycle ≤ 1073741824 ∧ 0 ≤ qv c := by
    have hs := hs
    simp only [Cfg.spans, inB, Bool.and_eq_true, decide_eq_true_eq] at hs
    unfold qv
    omega
  have e5 := REnt5 g c q h hs hh hn
  rw [cs5 g c q hq hb hW _ e5]
  unfold scheduleN
  by_cases h16 : 16 < c.entries.length
  · rw [if_pos h16, decide_eq_true h16, Bool.true_or]
    simp only [↓reduceIte, ne_eq, not_false_eq_true, Int.reduceEq]
    exact Wp.leaf rfl (Low.rfl' S)
  rw [if_neg h16, decide_eq_false h16, Bool.false_or]
  cases h5 : c.entries.any (badRoute c)
  · simp only [Bool.false_eq_true, ↓reduceIte, ne_eq]
    have hro : ∀ e ∈ c.entries, badRoute c e = false := fun e he => by simpa using List.any_eq_false.1 h5 e he
    have e6 := REnt6 g c q h hs hh hn hro
    rw [cs6 g c q hq hb hW _ e6]
    cases h6 : c.entries.any (badTime c)
    · simp only [Bool.false_eq_true, ↓reduceIte]
      have hph : ∀ e ∈ c.entries, -1125899906842624 ≤ e.ph ∧ e.ph ≤ 1125899906842624 := fun e he => by
        have := List.any_eq_false.1 h6 e he
        simp only [badTime, Bool.or_eq_true, decide_eq_true_eq, not_or] at this
        omega
      have e7 := REnt7 g c q h hs hh hn hph
      rw [cs7 g c q hq hb hW _ e7]
      cases h7 : pairsB same [] c.entries
      · simp only [Bool.false_eq_true, ↓reduceIte]
        have hfw : ∀ e ∈ c.entries, forward c e = e.ph + tm e.sz + c.delay + 2 * c.prec := fun e he => by
          unfold forward; rw [if_pos (plain_of c e hs hh (hro e he) (hph e he))]
        have e8 := REnt8 g c q h hs hh hn hph hfw
        rw [cs8 g c q hq hb hW _ e8]
        cases h8 : pairsB (both c) [] c.entries
        · simp only [Bool.false_eq_true, ↓reduceIte, not_true_eq_false]
          exact cs9 g c q hh h hb hW _ _ _ _ _ _ _ _ _ _ _ _ _ _ _ _ _ _ _ _ _ _ _ _ _ _ _ _ _ _ _ _ _ _ _ _ _ _ _ _ _ _ _ _ _ _ _ _ _ _ _ _ _ _ _ _ _ _ _ _ _ _ _ _ _ _ _ _ _
        · simp only [↓reduceIte, not_false_eq_true, Int.reduceEq]
          exact Wp.leaf rfl (Low.rfl' S)
      · simp only [↓reduceIte, not_false_eq_true, Int.reduceEq]
        exact Wp.leaf rfl (Low.rfl' S)
    · simp only [↓reduceIte, not_false_eq_true, Int.reduceEq]
      exact Wp.leaf rfl (Low.rfl' S)
  · simp only [↓reduceIte, ne_eq, not_false_eq_true, Int.reduceEq]
    exact Wp.leaf rfl (Low.rfl' S)
theorem checkN_eq (c : Cfg) : checkN c = if inB c.hosts 1 6 = false then 1 else if inB c.cycle 1 1073741824 = false then 2 else if c.spans = false then 3 else if rowsOk c = false then 4 else if scheduleN c ≠ 0 then scheduleN c else linksN c := by
  unfold checkN linksN queueN
  rfl
set_option maxRecDepth 100000 in
theorem RCheck_eq (g : Gd W S) (c : Cfg) (q : Pl) (h : CfgAt W S c q) : cw W 12 #[cvl c q] S = some (i64 (checkN c), S) := by
  rw [eq12, checkN_eq]
  have hN := g.n; have hL : S.lock ≤ S.c := g.ok.1
  have hq := h.vlt
  have g1 := g.new (o := .row [Value.int .i64 c.hosts, .int .i64 c.cycle, .int .i64 c.delay, .int .i64 c.window, .int .i64 c.prec, .slice q.ad c.delays.length q.cd, .slice q.ae c.entries.length q.ce, .slice q.al c.links.length q.cl, .int .i64 c.queue] 0) (objLt_mono (Nat.le_succ _) (cvl_obj hq))
  have hq1 : vlt (S.c + 1) (cvl c q) = true := vlt_mono (by omega) hq
  have ha : [cvl c q].all (vlt S.c) = true := by rw [List.all_cons, hq]; rfl
  have lw : Low S (S.new (.row [Value.int .i64 c.hosts, .int .i64 c.cycle, .int .i64 c.delay, .int .i64 c.window, .int .i64 c.prec, .slice q.ad c.delays.length q.cd, .slice q.ae c.entries.length q.ce, .slice q.al c.links.length q.cl, .int .i64 c.queue] 0)) := Low.new (Low.rfl' S) _
  have hb : (S.new (.row [Value.int .i64 c.hosts, .int .i64 c.cycle, .int .i64 c.delay, .int .i64 c.window, .int .i64 c.prec, .slice q.ad c.delays.length q.cd, .slice q.ae c.entries.length q.ce, .slice q.al c.links.length q.cl, .int .i64 c.queue] 0)).heap S.c = .row (ccs c q) 0 := new_self _
  have h3 := h.low lw
  have eS := RSpans_eq g1 c q hq1
  have eW := RRows_eq g1 c q h3
  refine gcR_wp (args := [_]) g ha rfl ?_
  by_cases a1 : c.hosts < 1
  · rw [if_pos (by unfold inB; exact decide_eq_false (by omega))]
    simp -implicitDefEqProofs (maxSteps := 1000000) (disch := (refine id ?_; first | ((fail_if_success (with_reducible apply isT_of)); (fail_if_success (first | fail)); first | omega | fail))) only [a1, ↓bindV_some, ↓bindS_some, ↓condB_true, wV_false, ↓wO_false, bindV_some, bindS_some, ↓gV_f, ↓condK_B, wO_false, wV_pos, wO_val, pick_or, bin_lss, bin_gtr, pick_true, box_agg, cell_at, cells_at, cellOf_row, cellsOf_row, nth_zero, nth_succ, aggOf_some, eq_self, new_at, decide_true, Bool.not_true, Nat.zero_add, List.length_cons, List.length_nil, List.drop_zero, List.take_succ_cons, List.take_zero, Nat.reduceAdd, ↓reduceIte, Nat.le_refl, decide_eq_true_eq, Bool.or_eq_true, call_35, call_36, ld_2, ld_3, fa_26_0, fa_26_1, ld_26]
    exact Wp.leaf rfl lw
  by_cases a2 : 6 < c.hosts
  · rw [if_pos (by unfold inB; exact decide_eq_false (by omega))]
    simp -implicitDefEqProofs (maxSteps := 1000000) (disch := (refine id ?_; first | ((fail_if_success (with_reducible apply isT_of)); (fail_if_success (first | fail)); first | omega | fail))) only [a1, a2, ↓bindV_some, ↓bindS_some, ↓condB_true, wV_true, bindV_some, bindS_some, ↓gV_f, ↓condK_B, wV_pos, wO_val, pick_or, pick_bool, bin_lss, bin_gtr, box_agg, cell_at, cells_at, cellOf_row, cellsOf_row, nth_zero, nth_succ, aggOf_some, eq_self, new_at, decide_true, decide_false, Bool.not_false, Nat.zero_add, List.length_cons, List.length_nil, List.drop_zero, List.take_succ_cons, List.take_zero, Nat.reduceAdd, ↓reduceIte, Nat.le_refl, decide_eq_true_eq, Bool.or_eq_true, reduceCtorEq, call_35, call_36, ld_2, ld_3, fa_26_0, fa_26_1, ld_26]
    exact Wp.leaf rfl lw
  have hh : 1 ≤ c.hosts ∧ c.hosts ≤ 6 := by omega
  rw [if_neg (by unfold inB; rw [decide_eq_true hh]; simp)]
  by_cases a3 : c.cycle < 1
  · rw [if_pos (by unfold inB; exact decide_eq_false (by omega))]
    simp -implicitDefEqProofs (maxSteps := 1000000) (disch := (refine id ?_; first | ((fail_if_success (with_reducible apply isT_of)); (fail_if_success (first | fail)); first | omega | fail))) only [a1, a2, a3, ↓bindV_some, ↓bindS_some, ↓condB_true, ↓condB_false, wV_true, wV_false, ↓wO_false, bindV_some, bindS_some, ↓gV_f, ↓condK_B, wO_false, wO_val, pick_bool, bin_lss, bin_gtr, pick_true, box_agg, cell_at, cells_at, cellOf_row, cellsOf_row, nth_zero, nth_succ, aggOf_some, eq_self, new_at, decide_true, decide_false, Bool.not_true, Bool.not_false, Nat.zero_add, List.length_cons, List.length_nil, List.drop_zero, List.take_succ_cons, List.take_zero, Nat.reduceAdd, ↓reduceIte, Nat.le_refl, reduceCtorEq, call_35, call_36, ld_2, ld_3, fa_26_0, fa_26_1, ld_26]
    exact Wp.leaf rfl lw
  by_cases a4 : 1073741824 < c.cycle
  · rw [if_pos (by unfold inB; exact decide_eq_false (by omega))]
    simp -implicitDefEqProofs (maxSteps := 1000000) (disch := (refine id ?_; first | ((fail_if_success (with_reducible apply isT_of)); (fail_if_success (first | fail)); first | omega | fail))) only [a1, a2, a3, a4, ↓bindV_some, ↓bindS_some, ↓condB_true, ↓condB_false, wV_true, bindV_some, bindS_some, ↓gV_f, ↓condK_B, wO_val, pick_bool, bin_lss, bin_gtr, box_agg, cell_at, cells_at, cellOf_row, cellsOf_row, nth_zero, nth_succ, aggOf_some, eq_self, new_at, decide_true, decide_false, Bool.not_false, Nat.zero_add, List.length_cons, List.length_nil, List.drop_zero, List.take_succ_cons, List.take_zero, Nat.reduceAdd, ↓reduceIte, Nat.le_refl, reduceCtorEq, call_35, call_36, ld_2, ld_3, fa_26_0, fa_26_1, ld_26]
    exact Wp.leaf rfl lw
  rw [if_neg (by unfold inB; rw [decide_eq_true (by omega)]; simp)]
  cases hs : c.spans
  · rw [hs] at eS
    simp -implicitDefEqProofs (maxSteps := 1000000) (disch := (refine id ?_; first | ((fail_if_success (with_reducible apply isT_of)); (fail_if_success (first | fail)); first | omega | fail))) only [eS, a1, a2, a3, a4, ↓bindV_some, ↓bindS_some, ↓condB_true, ↓condB_false, wV_true, bindV_some, bindS_some, ↓gV_f, ↓condK_B, wO_val, pick_bool, bin_lss, bin_gtr, un_not, box_agg, cell_at, cells_at, cellOf_row, cellsOf_row, nth_zero, nth_succ, aggOf_some, eq_self, new_at, decide_false, Bool.not_false, Nat.zero_add, List.length_cons, List.length_nil, List.drop_zero, List.take_succ_cons, List.take_zero, Nat.reduceAdd, ↓reduceIte, Nat.le_refl, reduceCtorEq, call_35, call_36, ld_2, ld_3, fa_26_0, fa_26_1, ld_26]
    exact Wp.leaf rfl lw
  rw [hs] at eS
  rw [if_neg (by simp)]
  cases hr : rowsOk c
  · rw [hr] at eW
    simp -implicitDefEqProofs (maxSteps := 1000000) (disch := (refine id ?_; first | ((fail_if_success (with_reducible apply isT_of)); (fail_if_success (first | fail)); first | omega | fail))) only [eS, eW, a1, a2, a3, a4, ↓bindV_some, ↓bindS_some, ↓condB_true, ↓condB_false, wV_true, bindV_some, bindS_some, ↓gV_f, ↓condK_B, wO_val, pick_bool, bin_lss, bin_gtr, un_not, box_agg, cell_at, cells_at, cellOf_row, cellsOf_row, nth_zero, nth_succ, aggOf_some, eq_self, new_at, decide_false, Bool.not_true, Bool.not_false, Nat.zero_add, List.length_cons, List.length_nil, List.drop_zero, List.take_succ_cons, List.take_zero, Nat.reduceAdd, ↓reduceIte, Nat.le_refl, reduceCtorEq, call_35, call_36, ld_2, ld_3, fa_26_0, fa_26_1, ld_26]
    exact Wp.leaf rfl lw
  rw [hr] at eW
  rw [if_neg (by simp)]
  simp -implicitDefEqProofs (maxSteps := 1000000) (disch := (refine id ?_; first | ((fail_if_success (with_reducible apply isT_of)); (fail_if_success (first | fail)); first | omega | fail))) only [eS, eW, a1, a2, a3, a4, ↓bindV_some, ↓bindS_some, ↓condB_false, wV_true, bindV_some, bindS_some, ↓gV_f, ↓condK_B, wO_val, pick_bool, bin_lss, bin_gtr, un_not, box_agg, cell_at, cells_at, cellOf_row, cellsOf_row, nth_zero, nth_succ, aggOf_some, new_at, decide_false, Bool.not_true, Bool.not_false, Nat.zero_add, List.length_cons, List.length_nil, List.drop_zero, List.take_succ_cons, List.take_zero, Nat.reduceAdd, ↓reduceIte, Nat.le_refl, reduceCtorEq, call_35, call_36, ld_2, ld_3, fa_26_0, fa_26_1, ld_26]
  exact (cs_all g1 c q hs hh h.le h3 hb hN _ _ _ _ _ _ _ _ _ _ _ _ _ _ _ _ _ _ _ _ _ _ _ _ _ _ _ _ _ _ _ _ _ _ _ _ _ _ _ _ _ _ _ _ _ _ _ _ _ _ _ _ _ _ _ _ _ _ _ _ _ _ _ _ _ _ _ _ _).mono fun r x => ⟨x.1, lw.trans x.2⟩
end
end Go.Proofs.Ytogcdgdnjinjkaa.F
end
section
namespace Go.Proofs.Ytogcdgdnjinjkaa.F
open Go Go.Proofs.Ytogcdgdnjinjkaa.E
set_option linter.unusedVariables false
set_option linter.unusedSimpArgs false
section
variable {W : World} {S : St}
def Mc {α : Type} (T : Enc α) (lo hi : Nat) (S : St) (v : Value) (l : List α) : Prop :=
  (∃ a c, v = .slice a 0 c ∧ l = [] ∧ vlt1 hi v = true) ∨
  ∃ b, v = .slice (some ⟨b, 0, none⟩) l.length l.length ∧ 0 < l.length ∧ lo ≤ b ∧ b < hi ∧ S.heap b = .row (T.fl l) T.k
theorem Mc.mk {α : Type} {T : Enc α} {lo hi : Nat} {S : St} {v : Value} {l : List α} (h : Mc T lo hi S v l) : Mk T lo hi S v l := by
  rcases h with h | ⟨b, e, h0, h1, h2, hr⟩
  · exact .inl h
  · exact .inr ⟨b, _, T.k, e, h0, Nat.le_refl _, h1, h2, hr, .inr rfl⟩
theorem Mc.rd {α : Type} {T : Enc α} {W : World} {lo hi : Nat} {S : St} {v : Value} {l : List α} (h : Mc T lo hi S v l) (g : Gd W S) (hlo : W.heap.size ≤ lo) (hhi : hi ≤ S.c) : Rd T W S v l := h.mk.rd g hlo hhi
theorem Mc.keep {α : Type} {T : Enc α} {lo hi : Nat} {S S' : St} {v : Value} {l : List α} (h : Mc T lo hi S v l) (e : ∀ i, lo ≤ i → i < hi → S'.heap i = S.heap i) : Mc T lo hi S' v l := by
  rcases h with h | ⟨b, e', h0, h1, h2, hr⟩
  · exact .inl h
  · exact .inr ⟨b, e', h0, h1, h2, (e b h1 h2).trans hr⟩
theorem Mc.low {α : Type} {T : Enc α} {lo hi : Nat} {S S' : St} {v : Value} {l : List α} (h : Mc T lo hi S v l) (k : Low S S') (hhi : hi ≤ S.c) : Mc T lo hi S' v l := h.keep fun i _ h2 => k.2.2 i (by omega)
theorem Mc.form {α : Type} {T : Enc α} {lo hi : Nat} {S : St} {v : Value} {l : List α} (h : Mc T lo hi S v l) : ∃ a c, v = .slice a l.length c := h.mk.form
theorem Mc.own {α : Type} {T : Enc α} {lo hi : Nat} {S : St} {v : Value} {l : List α} (h : Mc T lo hi S v l) (h0 : 0 < l.length) (hL : S.lock ≤ lo) : Sl T S v l := by
  rcases h with ⟨_, _, _, rfl, _⟩ | ⟨b, e, _, h1, h2, hr⟩
  · cases h0
  · exact .inr ⟨b, l.length, l.length, [], e, Nat.le_trans hL h1, hr, (fl_len T l).symm, Nat.le_refl _⟩
theorem rd_none {α : Type} {T : Enc α} {n c : Nat} {l : List α} (h : Rd T W S (.slice none n c) l) : l = [] := by
  obtain ⟨_, ⟨a, c', e, h⟩ | ⟨b, o, c', e, _⟩⟩ := h
  · exact h
  · injection e with e; cases e
theorem elc45 : Elem p 45 2 (zeroOf p 2) 1 8 := elem_of (by kernel_rfl)
theorem Clone45 (g : Gd W S) {v : Value} {l : List _} (rd : Rd IT W S v l) (hlen : l.length * 8 ≤ 140737488351232) : Wp (cw W 47 #[v] S) fun r => Gd W r.2 ∧ Low S r.2 ∧ Mc IT S.c r.2.c r.2 r.1 l := by
  rw [eq47]
  obtain ⟨a, c, rfl⟩ := rd.form
  have hN := g.n; have hL : S.lock ≤ S.c := g.ok.1
  cases a with
  | none =>
    have := rd_none rd
    subst this
    simp -implicitDefEqProofs (maxSteps := 1000000) (disch := (refine id ?_; first | fail)) only [↓bindV_some, ↓bindS_some, ↓condB_true, ↓condB_false, bindV_some, bindS_some, ↓condK_B, new_self, eq_self, decide_true, List.length_nil, Nat.reduceAdd, Nat.reduceSub, Nat.reduceMul, Nat.reduceLeDiff, Nat.reduceLT, Nat.reduceEqDiff, Int.reduceLE, Int.reduceLT, Int.reduceAdd, Int.reduceNeg, Int.reduceEq, Int.reduceSub, Int.reduceMul, Int.reduceToNat, ↓reduceIte, Option.isNone_some, Option.isNone_none, reduceCtorEq, bsl_45, bs_45_0_]
    exact ⟨_, rfl, g, Low.rfl' S, .inl ⟨none, 0, rfl, rfl, rfl⟩⟩
  | some a =>
    have g1 : Gd W (S.new (.row [] 0)) := g.new rfl
    have lw : Low S (S.new (.row [] 0)) := Low.new (Low.rfl' S) _
    have rd1 := rd.low lw
    have ea := append_clone (S := S.new (.row [] 0)) elc45 hN (new_self _) (rd1.src Try.underlying45 (z := zeroOf p 2)) (by omega) (fl_len _ _)
    simp -implicitDefEqProofs (maxSteps := 1000000) (disch := (refine id ?_; first | fail)) only [↓bindV_some, ↓bindS_some, ↓condB_true, ↓condB_false, bindV_some, bindS_some, ↓condK_B, new_self, eq_self, decide_true, List.length_nil, Nat.reduceAdd, Nat.reduceSub, Nat.reduceMul, Nat.reduceLeDiff, Nat.reduceLT, Nat.reduceEqDiff, Int.reduceLE, Int.reduceLT, Int.reduceAdd, Int.reduceNeg, Int.reduceEq, Int.reduceSub, Int.reduceMul, Int.reduceToNat, ↓reduceIte, Option.isNone_some, Option.isNone_none, reduceCtorEq, bsl_45, bs_45_0_]
    rw [ea]
    by_cases h0 : l.length = 0
    · rw [if_pos h0]
      exact ⟨_, rfl, g1, lw, .inl ⟨_, 0, rfl, List.eq_nil_of_length_eq_zero h0, by simp⟩⟩
    · rw [if_neg h0]
      have hc : ((IT).fl l).all (vlt1 (S.c + 1 + 1)) = true := fl_flat (fun _ => rfl) _ l
      have g2 : Gd W ((S.new (.row [] 0)).new (.row ((IT).fl l) 1)) := g1.new hc
      exact ⟨_, rfl, g2, Low.new lw _, .inr ⟨S.c + 1, rfl, by omega, by omega, Nat.lt_succ_self _, new_self _⟩⟩
theorem elc23 : Elem p 23 32 (zeroOf p 32) 4 32 := elem_of (by kernel_rfl)
theorem Clone23 (g : Gd W S) {v : Value} {l : List _} (rd : Rd NT W S v l) (hlen : l.length * 32 ≤ 140737488351232) : Wp (cw W 48 #[v] S) fun r => Gd W r.2 ∧ Low S r.2 ∧ Mc NT S.c r.2.c r.2 r.1 l := by
  rw [eq48]
  obtain ⟨a, c, rfl⟩ := rd.form
  have hN := g.n; have hL : S.lock ≤ S.c := g.ok.1
  cases a with
  | none =>
    have := rd_none rd
    subst this
    simp -implicitDefEqProofs (maxSteps := 1000000) (disch := (refine id ?_; first | fail)) only [↓bindV_some, ↓bindS_some, ↓condB_true, ↓condB_false, bindV_some, bindS_some, ↓condK_B, new_self, eq_self, decide_true, List.length_nil, Nat.reduceAdd, Nat.reduceSub, Nat.reduceMul, Nat.reduceLeDiff, Nat.reduceLT, Nat.reduceEqDiff, Int.reduceLE, Int.reduceLT, Int.reduceAdd, Int.reduceNeg, Int.reduceEq, Int.reduceSub, Int.reduceMul, Int.reduceToNat, ↓reduceIte, Option.isNone_some, Option.isNone_none, reduceCtorEq, bsl_23, bs_23_0_]
    exact ⟨_, rfl, g, Low.rfl' S, .inl ⟨none, 0, rfl, rfl, rfl⟩⟩
  | some a =>
    have g1 : Gd W (S.new (.row [] 0)) := g.new rfl
    have lw : Low S (S.new (.row [] 0)) := Low.new (Low.rfl' S) _
    have rd1 := rd.low lw
    have ea := append_clone (S := S.new (.row [] 0)) elc23 hN (new_self _) (rd1.src Try.underlying23 (z := zeroOf p 32)) (by omega) (fl_len _ _)
    simp -implicitDefEqProofs (maxSteps := 1000000) (disch := (refine id ?_; first | fail)) only [↓bindV_some, ↓bindS_some, ↓condB_true, ↓condB_false, bindV_some, bindS_some, ↓condK_B, new_self, eq_self, decide_true, List.length_nil, Nat.reduceAdd, Nat.reduceSub, Nat.reduceMul, Nat.reduceLeDiff, Nat.reduceLT, Nat.reduceEqDiff, Int.reduceLE, Int.reduceLT, Int.reduceAdd, Int.reduceNeg, Int.reduceEq, Int.reduceSub, Int.reduceMul, Int.reduceToNat, ↓reduceIte, Option.isNone_some, Option.isNone_none, reduceCtorEq, bsl_23, bs_23_0_]
    rw [ea]
    by_cases h0 : l.length = 0
    · rw [if_pos h0]
      exact ⟨_, rfl, g1, lw, .inl ⟨_, 0, rfl, List.eq_nil_of_length_eq_zero h0, by simp⟩⟩
    · rw [if_neg h0]
      have hc : ((NT).fl l).all (vlt1 (S.c + 1 + 1)) = true := fl_flat (fun _ => rfl) _ l
      have g2 : Gd W ((S.new (.row [] 0)).new (.row ((NT).fl l) 4)) := g1.new hc
      exact ⟨_, rfl, g2, Low.new lw _, .inr ⟨S.c + 1, rfl, by omega, by omega, Nat.lt_succ_self _, new_self _⟩⟩
theorem elc24 : Elem p 24 47 (zeroOf p 47) 4 32 := elem_of (by kernel_rfl)
theorem Clone24 (g : Gd W S) {v : Value} {l : List _} (rd : Rd KT W S v l) (hlen : l.length * 32 ≤ 140737488351232) : Wp (cw W 49 #[v] S) fun r => Gd W r.2 ∧ Low S r.2 ∧ Mc KT S.c r.2.c r.2 r.1 l := by
  rw [eq49]
  obtain ⟨a, c, rfl⟩ := rd.form
  have hN := g.n; have hL : S.lock ≤ S.c := g.ok.1
  cases a with
  | none =>
    have := rd_none rd
    subst this
    simp -implicitDefEqProofs (maxSteps := 1000000) (disch := (refine id ?_; first | fail)) only [↓bindV_some, ↓bindS_some, ↓condB_true, ↓condB_false, bindV_some, bindS_some, ↓condK_B, new_self, eq_self, decide_true, List.length_nil, Nat.reduceAdd, Nat.reduceSub, Nat.reduceMul, Nat.reduceLeDiff, Nat.reduceLT, Nat.reduceEqDiff, Int.reduceLE, Int.reduceLT, Int.reduceAdd, Int.reduceNeg, Int.reduceEq, Int.reduceSub, Int.reduceMul, Int.reduceToNat, ↓reduceIte, Option.isNone_some, Option.isNone_none, reduceCtorEq, bsl_24, bs_24_0_]
    exact ⟨_, rfl, g, Low.rfl' S, .inl ⟨none, 0, rfl, rfl, rfl⟩⟩
  | some a =>
    have g1 : Gd W (S.new (.row [] 0)) := g.new rfl
    have lw : Low S (S.new (.row [] 0)) := Low.new (Low.rfl' S) _
    have rd1 := rd.low lw
    have ea := append_clone (S := S.new (.row [] 0)) elc24 hN (new_self _) (rd1.src Try.underlying24 (z := zeroOf p 47)) (by omega) (fl_len _ _)
    simp -implicitDefEqProofs (maxSteps := 1000000) (disch := (refine id ?_; first | fail)) only [↓bindV_some, ↓bindS_some, ↓condB_true, ↓condB_false, bindV_some, bindS_some, ↓condK_B, new_self, eq_self, decide_true, List.length_nil, Nat.reduceAdd, Nat.reduceSub, Nat.reduceMul, Nat.reduceLeDiff, Nat.reduceLT, Nat.reduceEqDiff, Int.reduceLE, Int.reduceLT, Int.reduceAdd, Int.reduceNeg, Int.reduceEq, Int.reduceSub, Int.reduceMul, Int.reduceToNat, ↓reduceIte, Option.isNone_some, Option.isNone_none, reduceCtorEq, bsl_24, bs_24_0_]
    rw [ea]
    by_cases h0 : l.length = 0
    · rw [if_pos h0]
      exact ⟨_, rfl, g1, lw, .inl ⟨_, 0, rfl, List.eq_nil_of_length_eq_zero h0, by simp⟩⟩
    · rw [if_neg h0]
      have hc : ((KT).fl l).all (vlt1 (S.c + 1 + 1)) = true := fl_flat (fun _ => rfl) _ l
      have g2 : Gd W ((S.new (.row [] 0)).new (.row ((KT).fl l) 4)) := g1.new hc
      exact ⟨_, rfl, g2, Low.new lw _, .inr ⟨S.c + 1, rfl, by omega, by omega, Nat.lt_succ_self _, new_self _⟩⟩
theorem elc22 : Elem p 22 45 (zeroOf p 45) 1 24 := elem_of (by kernel_rfl)
theorem zero45 : zeroOf p 45 = .slice none 0 0 := by kernel_rfl
theorem zeros_one (n : Nat) (z : Value) : zeros n [z] = List.replicate n z := by
  unfold zeros
  rw [← List.map_eq_flatMap, List.map_const', List.length_range]
theorem make_22 (S : St) (n : Nat) (hn : n * 24 ≤ 140737488351232) : aMakeSlice p S 22 (.int .i64 0) (.int .i64 (n : Int)) = some (.slice (some ⟨S.c, 0, none⟩) 0 n, S.new (.row (List.replicate n (.slice none 0 0)) 0)) := by
  obtain ⟨ie, i1, i2, i3, i4⟩ := elc22.info
  rw [zero45] at i2
  unfold aMakeSlice
  simp only [Try.underlying22, i1, i2]
  rw [if_pos ⟨by rw [i3]; rfl, by rw [i3]; omega, rfl, by omega, by omega, by omega, by rw [i4]; omega⟩]
  rw [show (Value.slice none 0 0).cells.toList = [Value.slice none 0 0] from rfl, zeros_one, Int.toNat_natCast]
  rfl
def nb (s : Sv) : List Nat := if s.n = 0 then [] else blkOf (.slice s.a s.n s.c)
theorem Mk_nb {lo hi : Nat} {s : Sv} {S : St} (h : Mk IT lo hi S (.slice s.a s.n s.c) s.l) : ∀ i ∈ nb s, lo ≤ i ∧ i < hi := by
  intro i hi'
  unfold F.nb at hi'
  rcases h with ⟨a, c, e, _, _⟩ | ⟨b, c, k, e, h0, hc, h1, h2, hr, hk⟩
  · injection e with _ e _
    rw [if_pos e] at hi'
    cases hi'
  · split at hi'
    · cases hi'
    · rw [e] at hi'
      simp only [blkOf, List.mem_singleton] at hi'
      omega
def OwnCfg (lo hi : Nat) (S : St) (c : Cfg) (q : Pl) : Prop :=
  ∃ (svs : List Sv) (m1 m2 m3 : Nat), lo ≤ m1 ∧ m1 ≤ m2 ∧ m2 ≤ m3 ∧ m3 ≤ hi ∧ Mk VT lo m1 S (.slice q.ad c.delays.length q.cd) svs ∧ svs.map (·.l) = c.delays ∧ (∀ s ∈ svs, Mk IT m1 m2 S (.slice s.a s.n s.c) s.l) ∧ svs.Pairwise (fun s t => ∀ i ∈ nb s, i ∉ nb t) ∧ Mc NT m2 m3 S (.slice q.ae c.entries.length q.ce) c.entries ∧ Mk KT m3 hi S (.slice q.al c.links.length q.cl) c.links
structure CfgB (c : Cfg) : Prop where
  ld : c.delays.length * 24 ≤ 140737488351232
  ldd : ∀ l ∈ c.delays, l.length * 8 ≤ 140737488351232
  le : c.entries.length * 32 ≤ 140737488351232
  ll : c.links.length * 32 ≤ 140737488351232
  et : ∀ e ∈ c.entries, e.t < 4294967296
  lt : ∀ e ∈ c.links, e.t < 4294967296
theorem OwnCfg.at {lo hi : Nat} {S : St} {c : Cfg} {q : Pl} (h : OwnCfg lo hi S c q) (g : Gd W S) (hlo : W.heap.size ≤ lo) (hhi : hi ≤ S.c) (b : CfgB c) : CfgAt W S c q := by
  obtain ⟨svs, m1, m2, m3, a1, a2, a3, a4, hd, e, hr, hp, hN, hK⟩ := h
  exact ⟨⟨svs, hd.rd g hlo (by omega), e, fun s hs => (hr s hs).rd g (by omega) (by omega)⟩, hN.rd g (by omega) (by omega), hK.rd g (by omega) hhi, by have := b.ld; omega, fun l hl => by have := b.ldd l hl; omega, by have := b.le; omega, by have := b.ll; omega, b.et, b.lt⟩
theorem OwnCfg.low {lo hi : Nat} {S S' : St} {c : Cfg} {q : Pl} (h : OwnCfg lo hi S c q) (k : Low S S') (hhi : hi ≤ S.c) : OwnCfg lo hi S' c q := by
  obtain ⟨svs, m1, m2, m3, a1, a2, a3, a4, hd, e, hr, hp, hN, hK⟩ := h
  exact ⟨svs, m1, m2, m3, a1, a2, a3, a4, hd.low k (by omega), e, fun s hs => (hr s hs).low k (by omega), hp, hN.low k (by omega), hK.low k hhi⟩
set_option maxRecDepth 100000 in
set_option maxHeartbeats 1000000 in
theorem copy_end (S2 : St) (c : Cfg) (q : Pl) (hB : CfgB c) {b1 b2 bd : Nat} (g0 : Gd W S2) (h : CfgAt W S2 c q) (hb1 : S2.heap b1 = .row (ccs c q) 0) (hb2 : S2.heap b2 = (.row [.int .i64 0, .int .i64 0, .int .i64 0, .int .i64 0, .int .i64 0, .slice none 0 0, .slice none 0 0, .slice none 0 0, .int .i64 0] 0)) (hW1 : W.heap.size ≤ b1) (hW2 : W.heap.size ≤ b2) (hL1 : S2.lock ≤ b1) (hL2 : S2.lock ≤ b2) (h12 : b1 ≠ b2) (hbd : bd = S2.c)
    (S : St) (g : Gd W S) (w : Low S2 S) (svs' : List Sv) (he : svs'.map (·.l) = c.delays) (hr : S.heap bd = .row (VT.fl svs') 0) (hm : ∀ s ∈ svs', Mk IT (bd + 1) S.c S (.slice s.a s.n s.c) s.l) (hp : svs'.Pairwise (fun s t => ∀ i ∈ nb s, i ∉ nb t)) (hbc : bd < S.c)
    (n j : Nat) (hn : n = c.delays.length) (hj : j = n) (y0 y4 y6 y7 y8 y9 y10 y23 y24 y25 y26 y27 y28 y29 y30 y31 y32 y33 : Value) :
    Wp (bindO (l26_11010 W y0 (.pointer (some ⟨b1, 0, none⟩)) (.pointer (some ⟨b2, 0, none⟩)) (.slice (some ⟨bd, 0, none⟩) j n) y4 y6 y7 y8 y9 y10 (.slice q.ad n q.cd) (.int .i64 (n : Int)) (.int .i64 (j : Int)) y23 y24 y25 y26 y27 y28 y29 y30 y31 y32 y33 S) (kc W c26 [1, 1, 0, 1, 0] f26)) fun r => ∃ q', r.1 = cvl c q' ∧ Gd W r.2 ∧ S2.c ≤ r.2.c ∧ r.2.lock = S2.lock ∧ (∀ i, i < S2.c → i ≠ b1 → i ≠ b2 → r.2.heap i = S2.heap i) ∧ OwnCfg S2.c r.2.c r.2 c q' := by
  have hx : ¬ ((j : Int) < (n : Int)) := by omega
  have q1 := row_lt g0.ok hb1
  have q2 := row_lt g0.ok hb2
  have hN := g.n; have hL : S.lock ≤ S.c := g.ok.1
  rw [r26_11010]
  have hs1 := (w.2.2 b1 q1).trans hb1
  have hs2 := (w.2.2 b2 q2).trans hb2
  simp -implicitDefEqProofs (maxSteps := 1000000) (disch := (refine id ?_; first | with_reducible assumption | ((first | with_reducible refine nat_lt_id ?_ | with_reducible refine nat_le_id ?_ ); (first | (simp +arith only [new_c, new_lock, upd_c, upd_lock, relock_c, relock_lock]; done) | (simp only [new_c, new_lock, upd_c, upd_lock, relock_c, relock_lock]; with_reducible assumption) | fail)) )) only [hx, hs1, hs2, k26_11010_0, ↓bindV_some, ↓bindT_some, ↓bindO_some, ↓condB_false, bindV_some, bindT_some, bindO_some, ↓condK_B, bin_add, bin_lss, cell_at, cells_at, put_cons, cellOf_row, cellsOf_row, putOf_row, nth_zero, nth_succ, aggOf_some, eq_self, upd_lo, upd_self, qS_true, splice_nil, splice_cons, decide_true, decide_false, and_self, Nat.zero_add, List.length_cons, List.length_nil, List.drop_zero, List.take_succ_cons, List.take_zero, List.set_cons_zero, List.set_cons_succ, List.all_cons, List.all_nil, storable_int, storable_slice, Bool.and_self, Nat.reduceAdd, Nat.reduceSub, Nat.reduceMul, Nat.reduceLeDiff, Nat.reduceLT, Nat.reduceEqDiff, Int.reduceLE, Int.reduceLT, Int.reduceAdd, Int.reduceNeg, Int.reduceEq, Int.reduceSub, Int.reduceMul, Int.reduceToNat, ↓reduceIte, Nat.le_refl, reduceCtorEq, call_47, call_48, call_49, st_22, ld_23, st_23, ld_24, st_24, fa_26_5, fa_26_6, fa_26_7, ld_26, st_26]
  have hS := h.low w
  refine Wp.bSq ((Clone23 (S := S.relock S.c) g.relock (show Rd NT W (S.relock S.c) _ _ from hS.ent) hB.le).mono fun r hr1 => ?_)
  obtain ⟨v3, T0⟩ := r
  obtain ⟨gT0, wT0, mE⟩ := hr1
  dsimp only at gT0 wT0 mE ⊢
  have wT : Low S (T0.relock S.lock) := wT0.relock
  have gT : Gd W (T0.relock S.lock) := Gd.back g gT0 (Nat.le_trans g.ok.1 wT0.2.1)
  have mE : Mc NT S.c (T0.relock S.lock).c (T0.relock S.lock) v3 c.entries := mE
  generalize T0.relock S.lock = T at wT gT mE ⊢
  obtain ⟨aE, cE, rfl⟩ := mE.form
  have ht1 := (wT.2.2 b1 (Nat.lt_of_lt_of_le q1 w.2.1)).trans hs1
  have ht2 := (wT.2.2 b2 (Nat.lt_of_lt_of_le q2 w.2.1)).trans hs2
  simp -implicitDefEqProofs (maxSteps := 1000000) (disch := (refine id ?_; first | with_reducible assumption | ((first | with_reducible refine nat_lt_id ?_ | with_reducible refine nat_le_id ?_ ); (first | (simp +arith only [new_c, new_lock, upd_c, upd_lock, relock_c, relock_lock]; done) | (simp only [new_c, new_lock, upd_c, upd_lock, relock_c, relock_lock]; with_reducible assumption) | fail)) )) only [ht1, ht2, ↓bindV_some, ↓bindT_some, ↓bindO_some, ↓condB_false, bindV_some, bindT_some, bindO_some, ↓condK_B, bin_add, bin_lss, cell_at, cells_at, put_cons, cellOf_row, cellsOf_row, putOf_row, nth_zero, nth_succ, aggOf_some, eq_self, upd_lo, upd_self, qS_true, splice_nil, splice_cons, decide_true, decide_false, and_self, Nat.zero_add, List.length_cons, List.length_nil, List.drop_zero, List.take_succ_cons, List.take_zero, List.set_cons_zero, List.set_cons_succ, List.all_cons, List.all_nil, storable_int, storable_slice, Bool.and_self, Nat.reduceAdd, Nat.reduceSub, Nat.reduceMul, Nat.reduceLeDiff, Nat.reduceLT, Nat.reduceEqDiff, Int.reduceLE, Int.reduceLT, Int.reduceAdd, Int.reduceNeg, Int.reduceEq, Int.reduceSub, Int.reduceMul, Int.reduceToNat, ↓reduceIte, Nat.le_refl, reduceCtorEq, call_47, call_48, call_49, st_22, ld_23, st_23, ld_24, st_24, fa_26_5, fa_26_6, fa_26_7, ld_26, st_26]
  have hT := hS.low wT
  refine Wp.bS ((Clone24 gT hT.lnk hB.ll).mono fun r hr2 => ?_)
  obtain ⟨v4, U⟩ := r
  obtain ⟨gU, wU, mK⟩ := hr2
  dsimp only at gU wU mK ⊢
  obtain ⟨aK, cK, rfl⟩ := mK.form
  have hu1 := (wU.2.2 b1 (Nat.lt_of_lt_of_le q1 (Nat.le_trans w.2.1 wT.2.1))).trans ht1
  have hu2 := (wU.2.2 b2 (Nat.lt_of_lt_of_le q2 (Nat.le_trans w.2.1 wT.2.1))).trans ht2
  have hl1 : U.lock ≤ b1 := by rw [wU.1, wT.1, w.1]; exact hL1
  have hl2 : U.lock ≤ b2 := by rw [wU.1, wT.1, w.1]; exact hL2
  have h21 : b2 ≠ b1 := h12.symm
  simp -implicitDefEqProofs (maxSteps := 1000000) (disch := (refine id ?_; first | with_reducible assumption | ((first | with_reducible refine nat_lt_id ?_ | with_reducible refine nat_le_id ?_ ); (first | (simp +arith only [new_c, new_lock, upd_c, upd_lock, relock_c, relock_lock]; done) | (simp only [new_c, new_lock, upd_c, upd_lock, relock_c, relock_lock]; with_reducible assumption) | fail)) )) only [hu1, hu2, h12, h21, upd_upd, ↓bindV_some, ↓bindT_some, ↓bindO_some, ↓condB_false, bindV_some, bindT_some, bindO_some, ↓condK_B, bin_add, bin_lss, cell_at, cells_at, put_cons, cellOf_row, cellsOf_row, putOf_row, nth_zero, nth_succ, aggOf_some, eq_self, upd_lo, upd_self, qS_true, splice_nil, splice_cons, decide_true, decide_false, and_self, Nat.zero_add, List.length_cons, List.length_nil, List.drop_zero, List.take_succ_cons, List.take_zero, List.set_cons_zero, List.set_cons_succ, List.all_cons, List.all_nil, storable_int, storable_slice, Bool.and_self, Nat.reduceAdd, Nat.reduceSub, Nat.reduceMul, Nat.reduceLeDiff, Nat.reduceLT, Nat.reduceEqDiff, Int.reduceLE, Int.reduceLT, Int.reduceAdd, Int.reduceNeg, Int.reduceEq, Int.reduceSub, Int.reduceMul, Int.reduceToNat, ↓reduceIte, Nat.le_refl, reduceCtorEq, call_47, call_48, call_49, st_22, ld_23, st_23, ld_24, st_24, fa_26_5, fa_26_6, fa_26_7, ld_26, st_26]
  subst hj hn
  have hc1 : S2.c ≤ U.c := Nat.le_trans w.2.1 (Nat.le_trans wT.2.1 wU.2.1)
  have k1 : b1 < U.c := Nat.lt_of_lt_of_le q1 hc1
  have k2 : b2 < U.c := Nat.lt_of_lt_of_le q2 hc1
  have hWs : W.heap.size ≤ S.c := Nat.le_trans g.lock g.ok.1
  have hWt : W.heap.size ≤ T.c := Nat.le_trans gT.lock gT.ok.1
  have vE : vlt1 U.c (.slice aE c.entries.length cE) = true := vlt1_mono wU.2.1 (mE.rd gT hWs (Nat.le_refl _)).vlt
  have vK : vlt1 U.c (.slice aK c.links.length cK) = true := (mK.rd gU hWt (Nat.le_refl _)).vlt
  have vD : bd < U.c := Nat.lt_of_lt_of_le hbc (Nat.le_trans wT.2.1 wU.2.1)
  refine Wp.ret ⟨⟨some ⟨bd, 0, none⟩, c.delays.length, aE, cE, aK, cK⟩, rfl, ?_, hc1, ?_, ?_, ?_⟩
  · refine Gd.upd (Gd.upd gU k1 ?_) k2 ?_
    · simp only [objLt_row, List.all_cons, List.all_nil, vlt1_int, vE, vK, vlt1_sl, decide_eq_true vD, Bool.and_self]
    · simp only [upd_c, objLt_row, List.all_cons, List.all_nil, vlt1_int, vE, vK, vlt1_sl, decide_eq_true vD, Bool.and_self]
  · exact wU.1.trans (wT.1.trans w.1)
  · intro i hi n1 n2
    show ((U.upd b1 _).upd b2 _).heap i = _
    rw [upd_ne _ n2, upd_ne _ n1, wU.2.2 i (by have := w.2.1; have := wT.2.1; omega), wT.2.2 i (by have := w.2.1; omega), w.2.2 i hi]
  · have keep : ∀ i, S2.c ≤ i → ∀ (o o' : AObj), ((U.upd b1 o).upd b2 o').heap i = U.heap i := fun i hi o o' => by
      rw [upd_ne _ (by omega), upd_ne _ (by omega)]
    have hcs := w.2.1
    refine ⟨svs', bd + 1, S.c, T.c, by omega, by omega, wT.2.1, wU.2.1, ?_, he, fun s hs => ?_, hp, ?_, ?_⟩
    · have hsl : svs'.length = c.delays.length := by rw [← he, List.length_map]
      by_cases h0 : c.delays.length = 0
      · refine .inl ⟨_, c.delays.length, by rw [h0], List.eq_nil_of_length_eq_zero (by omega), ?_⟩
        simp
      · refine .inr ⟨bd, c.delays.length, 0, by rw [hsl], by omega, by omega, by omega, by omega, ?_, .inl rfl⟩
        show ((U.upd b1 _).upd b2 _).heap bd = _
        rw [keep bd (by omega), wU.2.2 bd (by have := wT.2.1; omega), wT.2.2 bd hbc, hr]
    · exact (hm s hs).keep fun i h1 h2 => by
        show ((U.upd b1 _).upd b2 _).heap i = _
        rw [keep i (by omega), wU.2.2 i (by have := wT.2.1; omega), wT.2.2 i h2]
    · exact mE.keep fun i h1 h2 => by
        show ((U.upd b1 _).upd b2 _).heap i = _
        rw [keep i (by omega), wU.2.2 i h2]
    · exact mK.mk.keep fun i h1 h2 => by
        show ((U.upd b1 _).upd b2 _).heap i = _
        rw [keep i (by have := wT.2.1; omega)]
theorem row_grow (done : List Sv) (m : Nat) (s : Sv) (j : Nat) (hj : j = done.length) : splice (VT.fl done ++ List.replicate (m + 1) (.slice none 0 0)) (j * 1) [.slice s.a s.n s.c] = VT.fl (done ++ [s]) ++ List.replicate m (.slice none 0 0) := by
  subst hj
  have e : (VT.fl done).length = done.length := (fl_len VT done).trans (Nat.mul_one _)
  rw [splice_cons, splice_nil, Nat.mul_one, ← e, List.set_append_right _ _ (Nat.le_refl _), Nat.sub_self, List.replicate_succ, List.set_cons_zero, fl_app, fl_one, List.append_assoc]
  rfl
set_option maxRecDepth 100000 in
set_option maxHeartbeats 1000000 in
theorem copy_loop (S2 : St) (c : Cfg) (q : Pl) (hB : CfgB c) {b1 b2 bd : Nat} (g0 : Gd W S2) (h : CfgAt W S2 c q) (hb1 : S2.heap b1 = .row (ccs c q) 0) (hb2 : S2.heap b2 = (.row [.int .i64 0, .int .i64 0, .int .i64 0, .int .i64 0, .int .i64 0, .slice none 0 0, .slice none 0 0, .slice none 0 0, .int .i64 0] 0)) (hW1 : W.heap.size ≤ b1) (hW2 : W.heap.size ≤ b2) (hL1 : S2.lock ≤ b1) (hL2 : S2.lock ≤ b2) (h12 : b1 ≠ b2) (hbd : bd = S2.c) (m : Nat) : ∀ (j : Nat) (hmj : m + j = c.delays.length)
    (S : St) (g : Gd W S) (w : Low S2 S) (done : List Sv) (he : done.map (·.l) = c.delays.take j) (hr : S.heap bd = .row (VT.fl done ++ List.replicate m (.slice none 0 0)) 0) (hm : ∀ s ∈ done, Mk IT (bd + 1) S.c S (.slice s.a s.n s.c) s.l) (hp : done.Pairwise (fun s t => ∀ i ∈ nb s, i ∉ nb t)) (hbc : bd < S.c)
    (y0 y4 y6 y7 y8 y9 y10 y23 y24 y25 y26 y27 y28 y29 y30 y31 y32 y33 : Value),
    Wp (bindO (l26_11010 W y0 (.pointer (some ⟨b1, 0, none⟩)) (.pointer (some ⟨b2, 0, none⟩)) (.slice (some ⟨bd, 0, none⟩) j c.delays.length) y4 y6 y7 y8 y9 y10 (.slice q.ad c.delays.length q.cd) (.int .i64 (c.delays.length : Int)) (.int .i64 (j : Int)) y23 y24 y25 y26 y27 y28 y29 y30 y31 y32 y33 S) (kc W c26 [1, 1, 0, 1, 0] f26)) fun r => ∃ q', r.1 = cvl c q' ∧ Gd W r.2 ∧ S2.c ≤ r.2.c ∧ r.2.lock = S2.lock ∧ (∀ i, i < S2.c → i ≠ b1 → i ≠ b2 → r.2.heap i = S2.heap i) ∧ OwnCfg S2.c r.2.c r.2 c q' := by
  have hld := hB.ld
  have hWd : W.heap.size ≤ bd := by rw [hbd]; exact g0.n
  have hLd : S2.lock ≤ bd := by rw [hbd]; exact g0.ok.1
  induction m with
  | zero =>
    intro j hmj S g w done he hr hm hp hbc y0 y4 y6 y7 y8 y9 y10 y23 y24 y25 y26 y27 y28 y29 y30 y31 y32 y33
    rw [List.take_of_length_le (by omega)] at he
    rw [List.replicate_zero, List.append_nil] at hr
    exact copy_end S2 c q hB g0 h hb1 hb2 hW1 hW2 hL1 hL2 h12 hbd S g w done he hr hm hp hbc _ j rfl (by omega) _ _ _ _ _ _ _ _ _ _ _ _ _ _ _ _ _ _
  | succ m ih =>
    intro j hmj S g w done he hr hm hp hbc y0 y4 y6 y7 y8 y9 y10 y23 y24 y25 y26 y27 y28 y29 y30 y31 y32 y33
    have hj : j < c.delays.length := by omega
    have hx : (j : Int) < (c.delays.length : Int) := by omega
    have e2 : IntKind.i64.wrap ((j : Int) + 1) = ((j + 1 : Nat) : Int) := by rw [wrap64 (by omega) (by omega)]; omega
    have hdl : done.length = j := by have := congrArg List.length he; rw [List.length_map, List.length_take] at this; omega
    obtain ⟨svs, p1, p2, p3⟩ := (h.low w).del
    have hsl : svs.length = c.delays.length := by rw [← p2, List.length_map]
    have hjs : j < svs.length := by omega
    have hl := hB.ldd svs[j].l (by rw [← p2]; exact List.mem_map_of_mem (List.getElem_mem hjs))
    have p3j := p3 svs[j] (List.getElem_mem hjs)
    have etk : c.delays.take (j + 1) = c.delays.take j ++ [svs[j].l] := by
      rw [take_succ' c.delays j hj]
      congr 2
      rw [List.getElem_of_eq p2.symm hj, List.getElem_map]
    obtain ⟨b, o, cp, e, hbS, hrd⟩ := p1.at (by omega)
    have eA : q.ad = some ⟨b, o, none⟩ := by injection e
    have e5 := (hrd j hjs).2 0 (by decide)
    rw [show VT.k = 1 from rfl, show VT.cs svs[j] = [.slice svs[j].a svs[j].n svs[j].c] from rfl, Nat.mul_one, Nat.add_zero, nth_zero] at e5
    clear hrd e p3
    generalize svs[j] = s at e5 hl p3j etk
    have ih := ih (j + 1) (by omega)
    rw [eA] at ih
    have hN := g.n; have hL : S.lock ≤ S.c := g.ok.1
    rw [r26_11010]
    simp -implicitDefEqProofs (maxSteps := 1000000) (disch := (refine id ?_; first | ((fail_if_success (with_reducible apply isT_of)); (fail_if_success (first | fail)); first | omega | fail))) only [hx, e2, eA, e5, ↓bindV_some, ↓bindS_some, ↓condB_true, bindV_some, bindS_some, wrap64, ↓condK_B, bin_add, bin_lss, nth_zero, eq_self, new_lo, new_lock, upd_self, bindO_bindS, decide_true, and_self, true_and, Nat.add_zero, List.all_cons, Bool.true_and, Bool.and_self, Nat.reduceAdd, Nat.reduceSub, Nat.reduceMul, Nat.reduceLeDiff, Nat.reduceLT, Nat.reduceEqDiff, Int.reduceLE, Int.reduceLT, Int.reduceAdd, Int.reduceNeg, Int.reduceEq, Int.reduceSub, Int.reduceMul, Int.reduceToNat, Int.toNat_natCast, Nat.mul_one, ↓reduceIte, Nat.le_refl, Bool.and_eq_true, reduceCtorEq, call_47, ix_22, ld_45, bs_22_1_0]
    refine Wp.bS ((Clone45 g p3j hl).mono fun r hr1 => ?_)
    obtain ⟨v, S1⟩ := r
    obtain ⟨g1, w1, mI⟩ := hr1
    dsimp only at g1 w1 mI ⊢
    obtain ⟨a', c', rfl⟩ := mI.form
    have hWs : W.heap.size ≤ S.c := Nat.le_trans g.lock g.ok.1
    have hv := (mI.rd g1 hWs (Nat.le_refl _)).vlt
    have hv1 : vlt1 (S1.c + 1) (.slice a' s.l.length c') = true := vlt1_mono (Nat.le_succ _) hv
    have hr1 : S1.heap bd = .row (VT.fl done ++ List.replicate (m + 1) (.slice none 0 0)) 0 := (w1.2.2 bd hbc).trans hr
    have hbc1 : bd < S1.c := Nat.lt_of_lt_of_le hbc w1.2.1
    have g2 : Gd W (S1.new (.row [.slice a' s.l.length c'] 0)) := g1.new (by simp only [objLt_row, List.all_cons, List.all_nil, hv1, Bool.and_self])
    have w2 : Low S1 (S1.new (.row [.slice a' s.l.length c'] 0)) := Low.new (Low.rfl' _) _
    have hr2 : (S1.new (.row [.slice a' s.l.length c'] 0)).heap bd = .row (VT.fl done ++ List.replicate (m + 1) (.slice none 0 0)) 0 := (new_lo _ hbc1).trans hr1
    have hlk : S1.lock = S2.lock := w1.1.trans w.1
    have ea := append_into (S := S1.new (.row [.slice a' s.l.length c'] 0)) elc22 (b := bd) (j := j) (n := c.delays.length) hWd (by rw [new_lock, hlk]; exact hLd) hr2 (by rw [List.length_append, fl_len, List.length_replicate, show VT.k = 1 from rfl]; omega) hj (src_made Try.underlying22 (sz := 1) (n := 1) g1 (l := [.slice a' s.l.length c']) rfl (by decide) 0) rfl rfl (by omega)
    rw [row_grow done m ⟨a', s.l.length, c', s.l⟩ j hdl.symm] at ea
    simp -implicitDefEqProofs (maxSteps := 1000000) (disch := (refine id ?_; first | ((fail_if_success (with_reducible apply isT_of)); (fail_if_success (first | fail)); first | omega | fail))) only [↓bindV_some, ↓bindS_some, ↓condB_true, bindV_some, bindS_some, wrap64, ↓condK_B, bin_add, bin_lss, nth_zero, eq_self, new_lo, new_lock, upd_self, bindO_bindS, decide_true, and_self, true_and, Nat.add_zero, List.all_cons, Bool.true_and, Bool.and_self, Nat.reduceAdd, Nat.reduceSub, Nat.reduceMul, Nat.reduceLeDiff, Nat.reduceLT, Nat.reduceEqDiff, Int.reduceLE, Int.reduceLT, Int.reduceAdd, Int.reduceNeg, Int.reduceEq, Int.reduceSub, Int.reduceMul, Int.reduceToNat, Int.toNat_natCast, Nat.mul_one, ↓reduceIte, Nat.le_refl, Bool.and_eq_true, reduceCtorEq, call_47, ix_22, ld_45, bs_22_1_0]
    rw [ea]
    simp -implicitDefEqProofs (maxSteps := 1000000) (disch := (refine id ?_; first | ((fail_if_success (with_reducible apply isT_of)); (fail_if_success (first | fail)); first | omega | fail))) only [e2, ↓bindV_some, ↓bindS_some, ↓condB_true, bindV_some, bindS_some, wrap64, ↓condK_B, bin_add, bin_lss, nth_zero, eq_self, new_lo, new_lock, upd_self, bindO_bindS, decide_true, and_self, true_and, Nat.add_zero, List.all_cons, Bool.true_and, Bool.and_self, Nat.reduceAdd, Nat.reduceSub, Nat.reduceMul, Nat.reduceLeDiff, Nat.reduceLT, Nat.reduceEqDiff, Int.reduceLE, Int.reduceLT, Int.reduceAdd, Int.reduceNeg, Int.reduceEq, Int.reduceSub, Int.reduceMul, Int.reduceToNat, Int.toNat_natCast, Nat.mul_one, ↓reduceIte, Nat.le_refl, Bool.and_eq_true, reduceCtorEq, call_47, ix_22, ld_45, bs_22_1_0]
    have hob := g2.cl bd (Nat.lt_succ_of_lt hbc1)
    rw [hr2] at hob
    have g3 := g2.upd (i := bd) (Nat.lt_succ_of_lt hbc1) (o := .row (VT.fl (done ++ [⟨a', s.l.length, c', s.l⟩]) ++ List.replicate m (.slice none 0 0)) 0) (by
      rw [objLt_row, List.all_append, Bool.and_eq_true] at hob ⊢
      refine ⟨?_, ?_⟩
      · rw [fl_app, List.all_append, hob.1, fl_one]
        simp only [Bool.true_and]
        show [Value.slice a' s.l.length c'].all (vlt1 (S1.c + 1)) = true
        rw [List.all_cons, hv1]; rfl
      · have := hob.2
        rw [List.replicate_succ, List.all_cons, Bool.and_eq_true] at this
        exact this.2)
    have w3 : Low S2 ((S1.new (.row [.slice a' s.l.length c'] 0)).upd bd (.row (VT.fl (done ++ [⟨a', s.l.length, c', s.l⟩]) ++ List.replicate m (.slice none 0 0)) 0)) := Low.upd ((w.trans w1).trans w2) (by omega) _
    have kp : ∀ i, i < S1.c → i ≠ bd → ∀ o', ((S1.new (.row [.slice a' s.l.length c'] 0)).upd bd o').heap i = S1.heap i := fun i hi hne o' => by
      rw [upd_ne _ hne, new_lo _ hi]
    refine ih _ g3 w3 (done ++ [⟨a', s.l.length, c', s.l⟩]) ?_ (upd_self _ _) ?_ ?_ (Nat.lt_succ_of_lt hbc1) _ _ _ _ _ _ _ _ _ _ _ _ _ _ _ _ _ _
    · rw [List.map_append, he, etk]; rfl
    · intro t ht
      rcases List.mem_append.1 ht with ht | ht
      · exact ((hm t ht).keep fun i h1 h2 => by rw [kp i (by have := w1.2.1; omega) (by omega), w1.2.2 i h2]).wide (Nat.le_refl _) (by have := w1.2.1; simp only [upd_c, new_c]; omega)
      · rw [List.mem_singleton] at ht
        subst ht
        exact (mI.mk.keep fun i h1 h2 => by rw [kp i h2 (by omega)]).wide (by omega) (by simp only [upd_c, new_c]; omega)
    · refine List.pairwise_append.2 ⟨hp, List.pairwise_singleton _ _, fun x hx y hy i hi => ?_⟩
      rw [List.mem_singleton] at hy
      subst hy
      have q1 := Mk_nb (hm x hx) i hi
      intro hi2
      have q2 := Mk_nb (s := ⟨a', s.l.length, c', s.l⟩) mI.mk i hi2
      omega
theorem Copy_ok (g : Gd W S) (c : Cfg) (q : Pl) (hB : CfgB c) (h : CfgAt W S c q) : Wp (cw W 26 #[cvl c q] S) fun r => ∃ q', r.1 = cvl c q' ∧ Gd W r.2 ∧ Low S r.2 ∧ OwnCfg S.c r.2.c r.2 c q' := by
  rw [eq26]
  have hN := g.n; have hL : S.lock ≤ S.c := g.ok.1
  have hq := h.vlt
  have g1 := g.new (o := .row [Value.int .i64 c.hosts, .int .i64 c.cycle, .int .i64 c.delay, .int .i64 c.window, .int .i64 c.prec, .slice q.ad c.delays.length q.cd, .slice q.ae c.entries.length q.ce, .slice q.al c.links.length q.cl, .int .i64 c.queue] 0) (objLt_mono (Nat.le_succ _) (cvl_obj hq))
  have hq1 : vlt (S.c + 1) (cvl c q) = true := vlt_mono (by omega) hq
  have ha : [cvl c q].all (vlt S.c) = true := by rw [List.all_cons, hq]; rfl
  have g2 : Gd W ((S.new (.row [Value.int .i64 c.hosts, .int .i64 c.cycle, .int .i64 c.delay, .int .i64 c.window, .int .i64 c.prec, .slice q.ad c.delays.length q.cd, .slice q.ae c.entries.length q.ce, .slice q.al c.links.length q.cl, .int .i64 c.queue] 0)).new (.row [.int .i64 0, .int .i64 0, .int .i64 0, .int .i64 0, .int .i64 0, .slice none 0 0, .slice none 0 0, .slice none 0 0, .int .i64 0] 0)) := g1.new rfl
  have w2 : Low S ((S.new (.row [Value.int .i64 c.hosts, .int .i64 c.cycle, .int .i64 c.delay, .int .i64 c.window, .int .i64 c.prec, .slice q.ad c.delays.length q.cd, .slice q.ae c.entries.length q.ce, .slice q.al c.links.length q.cl, .int .i64 c.queue] 0)).new (.row [.int .i64 0, .int .i64 0, .int .i64 0, .int .i64 0, .int .i64 0, .slice none 0 0, .slice none 0 0, .slice none 0 0, .int .i64 0] 0)) := Low.new (Low.new (Low.rfl' S) _) _
  have em := make_22 ((S.new (.row [Value.int .i64 c.hosts, .int .i64 c.cycle, .int .i64 c.delay, .int .i64 c.window, .int .i64 c.prec, .slice q.ad c.delays.length q.cd, .slice q.ae c.entries.length q.ce, .slice q.al c.links.length q.cl, .int .i64 c.queue] 0)).new (.row [.int .i64 0, .int .i64 0, .int .i64 0, .int .i64 0, .int .i64 0, .slice none 0 0, .slice none 0 0, .slice none 0 0, .int .i64 0] 0)) c.delays.length hB.ld
  have hm : (((S.new (.row [Value.int .i64 c.hosts, .int .i64 c.cycle, .int .i64 c.delay, .int .i64 c.window, .int .i64 c.prec, .slice q.ad c.delays.length q.cd, .slice q.ae c.entries.length q.ce, .slice q.al c.links.length q.cl, .int .i64 c.queue] 0)).new (.row [.int .i64 0, .int .i64 0, .int .i64 0, .int .i64 0, .int .i64 0, .slice none 0 0, .slice none 0 0, .slice none 0 0, .int .i64 0] 0)).new (.row (List.replicate c.delays.length (.slice none 0 0)) 0)).heap S.c = .row (ccs c q) 0 := by rw [new_lo _ (by simp only [new_c]; omega), new_lo _ (by simp only [new_c]; omega)]; exact new_self _
  simp -implicitDefEqProofs (maxSteps := 1000000) (disch := (refine id ?_; first | ((fail_if_success (with_reducible apply isT_of)); (fail_if_success (first | fail)); first | (simp +arith only [new_c, new_lock, upd_c, upd_lock, relock_c, relock_lock]; done) | omega | fail))) only [em, hm, ↓bindV_some, ↓bindS_some, bindV_some, bindS_some, box_agg, cell_at, cellOf_row, nth_zero, nth_succ, new_self, eq_self, new_at, new_lo, new_c, Nat.zero_add, List.all_cons, Nat.reduceAdd, Nat.reduceSub, Nat.reduceMul, Nat.reduceLeDiff, Nat.reduceLT, Nat.reduceEqDiff, Int.reduceLE, Int.reduceLT, Int.reduceAdd, Int.reduceNeg, Int.reduceEq, Int.reduceSub, Int.reduceMul, Int.reduceToNat, ↓reduceIte, Nat.le_refl, reduceCtorEq, ld_22, len_22, fa_26_5, al_26]
  refine (copy_loop ((S.new (.row [Value.int .i64 c.hosts, .int .i64 c.cycle, .int .i64 c.delay, .int .i64 c.window, .int .i64 c.prec, .slice q.ad c.delays.length q.cd, .slice q.ae c.entries.length q.ce, .slice q.al c.links.length q.cl, .int .i64 c.queue] 0)).new (.row [.int .i64 0, .int .i64 0, .int .i64 0, .int .i64 0, .int .i64 0, .slice none 0 0, .slice none 0 0, .slice none 0 0, .int .i64 0] 0)) c q hB (b1 := S.c) (b2 := S.c + 1) (bd := S.c + 1 + 1) g2 (h.low w2) ?_ (new_self _) hN (by omega) hL (by simp only [new_lock]; omega) (by omega) rfl c.delays.length 0 rfl _ ?_ (Low.new (Low.rfl' _) _) [] (by simp) (new_self _) (by simp) List.Pairwise.nil (by simp only [new_c]; omega) _ _ _ _ _ _ _ _ _ _ _ _ _ _ _ _ _ _).mono ?_
  · rw [new_lo _ (by simp only [new_c]; omega)]; exact new_self _
  · refine g2.new ?_
    rw [objLt_row]
    exact List.all_eq_true.2 fun x hx => by rw [(List.mem_replicate.1 hx).2]; rfl
  · rintro r ⟨q', h1, h2, h3, h4, h5, h6⟩
    simp only [new_c] at h3 h5 h6
    refine ⟨q', h1, h2, ⟨h4, by omega, fun i hi => ?_⟩, ?_⟩
    · rw [h5 i (by omega) (by omega) (by omega), new_lo _ (by simp only [new_c]; omega), new_lo _ hi]
    · obtain ⟨svs, m1, m2, m3, a1, a2, a3, a4, hd, e, hr, hp, hN, hK⟩ := h6
      exact ⟨svs, m1, m2, m3, by omega, a2, a3, a4, hd.wide (by omega) (Nat.le_refl _), e, hr, hp, hN, hK⟩
end
end Go.Proofs.Ytogcdgdnjinjkaa.F
end
section
namespace Go.Proofs.Ytogcdgdnjinjkaa.F
open Go Go.Proofs.Ytogcdgdnjinjkaa.E
set_option linter.unusedVariables false
set_option linter.unusedSimpArgs false
section
variable {W : World} {S : St}
theorem en_eq (a b : En) : a = b ↔ a.f = b.f ∧ (a.t : Int) = (b.t : Int) ∧ a.ph = b.ph ∧ a.sz = b.sz := by
  obtain ⟨a1, a2, a3, a4⟩ := a
  obtain ⟨b1, b2, b3, b4⟩ := b
  simp only [En.mk.injEq]
  omega
theorem lk_eq (a b : Lk) : a = b ↔ a.f = b.f ∧ (a.t : Int) = (b.t : Int) ∧ a.gap = b.gap ∧ a.sz = b.sz := by
  obtain ⟨a1, a2, a3, a4⟩ := a
  obtain ⟨b1, b2, b3, b4⟩ := b
  simp only [Lk.mk.injEq]
  omega
theorem vlt_rd {α : Type} {T : Enc α} {v : Value} {l : List α} (rd : Rd T W S v l) : vlt S.c v = true := by
  obtain ⟨a, c, rfl⟩ := rd.form
  have := rd.vlt
  cases a <;> exact this
theorem eq_loop44 (g : Gd W S) (la lb : List Int) (hl : la.length = lb.length) (hlen : la.length ≤ 2 ^ 60) {va vb : Value} (ra : Rd IT W S va la) (rb : Rd IT W S vb lb) (n : Nat) : ∀ (j : Nat) (hn : n + j = la.length) (y2 y3 y6 y7 y8 y9 y10 : Value),
    bindO (l44_11010 W va vb y2 y3 y6 y7 y8 y9 y10 va (.int .i64 (la.length : Int)) (.int .i64 (j : Int)) S) (kc W c44 [1, 1, 0, 1, 0] f44) = some (.bool (decide (la.drop j = lb.drop j)), S) := by
  induction n with
  | zero =>
    intro j hn y2 y3 y6 y7 y8 y9 y10
    have hx : ¬ ((j : Int) < (la.length : Int)) := by omega
    rw [List.drop_eq_nil_of_le (by omega), List.drop_eq_nil_of_le (by omega)]
    rw [r44_11010]
    simp -implicitDefEqProofs (maxSteps := 1000000) (disch := (refine id ?_; first | ((fail_if_success (with_reducible apply isT_of)); (fail_if_success (first | fail)); first | omega | fail))) only [hx, k44_11010_0, ↓bindV_some, ↓bindO_some, ↓condB_true, ↓condB_false, bindV_some, bindO_some, wrap64, ↓condK_B, bin_add, bin_lss, bin_neq, nth_zero, eq_self, decide_true, decide_false, true_and, Bool.not_true, Bool.not_false, Nat.add_zero, Bool.true_and, Nat.reduceAdd, Nat.reduceSub, Nat.reduceMul, Nat.reduceLeDiff, Nat.reduceLT, Nat.reduceEqDiff, Int.reduceLE, Int.reduceLT, Int.reduceAdd, Int.reduceNeg, Int.reduceEq, Int.reduceSub, Int.reduceMul, Int.reduceToNat, Int.toNat_natCast, Nat.mul_one, ↓reduceIte, reduceCtorEq, ld_2, ix_45]
  | succ n ih =>
    intro j hn y2 y3 y6 y7 y8 y9 y10
    have hja : j < la.length := by omega
    have hjb : j < lb.length := by omega
    have hx : (j : Int) < (la.length : Int) := by omega
    have hxb : (j : Int) < (lb.length : Int) := by omega
    have e2 : IntKind.i64.wrap ((j : Int) + 1) = ((j + 1 : Nat) : Int) := by rw [wrap64 (by omega) (by omega)]; omega
    have ih := fun y2 y3 y6 y7 y8 y9 y10 => ih (j + 1) (by omega) y2 y3 y6 y7 y8 y9 y10
    obtain ⟨ba, oa, ca, rfl, hba, hra⟩ := ra.at (by omega)
    obtain ⟨bb, ob, cb, rfl, hbb, hrb⟩ := rb.at (by omega)
    have e5a := (hra j hja).2 0 (by decide)
    rw [show IT.k = 1 from rfl, show IT.cs la[j] = [.int .i64 la[j]] from rfl, Nat.mul_one, Nat.add_zero, nth_zero] at e5a
    have e5b := (hrb j hjb).2 0 (by decide)
    rw [show IT.k = 1 from rfl, show IT.cs lb[j] = [.int .i64 lb[j]] from rfl, Nat.mul_one, Nat.add_zero, nth_zero] at e5b
    rw [List.drop_eq_getElem_cons hja, List.drop_eq_getElem_cons hjb]
    have ed : decide (la[j] :: la.drop (j + 1) = lb[j] :: lb.drop (j + 1)) = decide (la[j] = lb[j] ∧ la.drop (j + 1) = lb.drop (j + 1)) := by rw [Bool.eq_iff_iff, decide_eq_true_iff, decide_eq_true_iff, List.cons.injEq]
    rw [ed]
    clear hra hrb ed ra rb
    generalize la[j] = x at e5a ⊢
    generalize lb[j] = y at e5b ⊢
    have hN := g.n; have hL : S.lock ≤ S.c := g.ok.1
    rw [r44_11010]
    by_cases hxy : x = y
    · subst hxy
      simp -implicitDefEqProofs (maxSteps := 1000000) (disch := (refine id ?_; first | ((fail_if_success (with_reducible apply isT_of)); (fail_if_success (first | fail)); first | omega | fail))) only [hx, hxb, e2, e5a, e5b, ↓bindV_some, ↓bindO_some, ↓condB_true, ↓condB_false, bindV_some, bindO_some, wrap64, ↓condK_B, bin_add, bin_lss, bin_neq, nth_zero, eq_self, decide_true, decide_false, true_and, Bool.not_true, Bool.not_false, Nat.add_zero, Bool.true_and, Nat.reduceAdd, Nat.reduceSub, Nat.reduceMul, Nat.reduceLeDiff, Nat.reduceLT, Nat.reduceEqDiff, Int.reduceLE, Int.reduceLT, Int.reduceAdd, Int.reduceNeg, Int.reduceEq, Int.reduceSub, Int.reduceMul, Int.reduceToNat, Int.toNat_natCast, Nat.mul_one, ↓reduceIte, reduceCtorEq, ld_2, ix_45]
      exact ih _ _ _ _ _ _ _
    · have hne := hxy
      
      rw [decide_eq_false (fun h => hxy h.1)]
      simp -implicitDefEqProofs (maxSteps := 1000000) (disch := (refine id ?_; first | ((fail_if_success (with_reducible apply isT_of)); (fail_if_success (first | fail)); first | omega | fail))) only [hx, hxb, e2, e5a, e5b, hne, k44_11010_ret, ↓bindV_some, ↓bindO_some, ↓condB_true, ↓condB_false, bindV_some, bindO_some, wrap64, ↓condK_B, bin_add, bin_lss, bin_neq, nth_zero, eq_self, decide_true, decide_false, true_and, Bool.not_true, Bool.not_false, Nat.add_zero, Bool.true_and, Nat.reduceAdd, Nat.reduceSub, Nat.reduceMul, Nat.reduceLeDiff, Nat.reduceLT, Nat.reduceEqDiff, Int.reduceLE, Int.reduceLT, Int.reduceAdd, Int.reduceNeg, Int.reduceEq, Int.reduceSub, Int.reduceMul, Int.reduceToNat, Int.toNat_natCast, Nat.mul_one, ↓reduceIte, reduceCtorEq, ld_2, ix_45]
theorem Eq44 (g : Gd W S) (la lb : List Int) (hla : la.length ≤ 2 ^ 60) {va vb : Value} (ra : Rd IT W S va la) (rb : Rd IT W S vb lb) : cw W 44 #[va, vb] S = some (.bool (decide (la = lb)), S) := by
  have ha : [va, vb].all (vlt S.c) = true := by rw [List.all_cons, vlt_rd ra, List.all_cons, vlt_rd rb]; rfl
  have ra' := ra
  have rb' := rb
  obtain ⟨aa, ca, rfl⟩ := ra.form
  obtain ⟨ab, cb, rfl⟩ := rb.form
  rw [eq44]
  have hN := g.n; have hL : S.lock ≤ S.c := g.ok.1
  by_cases hl : la.length = lb.length
  · have hl' : ((la.length : Int) = (lb.length : Int)) = True := eq_true (by omega)
    have lp := fun y2 y3 y6 y7 y8 y9 y10 => eq_loop44 g la lb hl hla ra' rb' la.length 0 rfl y2 y3 y6 y7 y8 y9 y10
    rw [cast0] at lp
    rw [List.drop_zero, List.drop_zero] at lp
    simp -implicitDefEqProofs (maxSteps := 1000000) (disch := (refine id ?_; first | ((fail_if_success (with_reducible apply isT_of)); (fail_if_success (first | fail)); first | omega | (with_reducible apply Gd.cl; with_reducible assumption) | with_reducible exact Low.rfl' _ | (simp only [flatR_int, flatR_bool, flatR_string, flatR_tuple, flatR_agg, flat_int, flat_bool, flat_string, flat_agg, flat0_int, flat0_bool, flat0_string, List.all_cons, List.all_nil, Bool.and_self, Bool.and_true, Bool.true_and]; done) | fail))) only [hl', lp, ha, gcR_some, ↓bindV_some, ↓condB_true, ↓condB_false, bindV_some, ↓condK_B, bin_neq, cast0, eq_self, decide_true, decide_false, Bool.not_true, Bool.not_false, List.drop_zero, List.all_cons, Nat.reduceAdd, Nat.reduceSub, Nat.reduceMul, Nat.reduceLeDiff, Nat.reduceLT, Nat.reduceEqDiff, Int.reduceLE, Int.reduceLT, Int.reduceAdd, Int.reduceNeg, Int.reduceEq, Int.reduceSub, Int.reduceMul, Int.reduceToNat, ↓reduceIte, reduceCtorEq, len_45]
  · have hl' : ¬ ((la.length : Int) = (lb.length : Int)) := by omega
    rw [decide_eq_false (fun h => hl (congrArg List.length h))]
    simp -implicitDefEqProofs (maxSteps := 1000000) (disch := (refine id ?_; first | ((fail_if_success (with_reducible apply isT_of)); (fail_if_success (first | fail)); first | omega | (with_reducible apply Gd.cl; with_reducible assumption) | with_reducible exact Low.rfl' _ | (simp only [flatR_int, flatR_bool, flatR_string, flatR_tuple, flatR_agg, flat_int, flat_bool, flat_string, flat_agg, flat0_int, flat0_bool, flat0_string, List.all_cons, List.all_nil, Bool.and_self, Bool.and_true, Bool.true_and]; done) | fail))) only [hl', ha, gcR_some, ↓bindV_some, ↓condB_true, ↓condB_false, bindV_some, ↓condK_B, bin_neq, cast0, eq_self, decide_true, decide_false, Bool.not_true, Bool.not_false, List.drop_zero, List.all_cons, Nat.reduceAdd, Nat.reduceSub, Nat.reduceMul, Nat.reduceLeDiff, Nat.reduceLT, Nat.reduceEqDiff, Int.reduceLE, Int.reduceLT, Int.reduceAdd, Int.reduceNeg, Int.reduceEq, Int.reduceSub, Int.reduceMul, Int.reduceToNat, ↓reduceIte, reduceCtorEq, len_45]
theorem eq_loop45 (g : Gd W S) (la lb : List En) (hl : la.length = lb.length) (hlen : la.length ≤ 2 ^ 60) {va vb : Value} (ra : Rd NT W S va la) (rb : Rd NT W S vb lb) (n : Nat) : ∀ (j : Nat) (hn : n + j = la.length) (y2 y3 y6 y7 y8 y9 y10 : Value),
    bindO (l45_11010 W va vb y2 y3 y6 y7 y8 y9 y10 va (.int .i64 (la.length : Int)) (.int .i64 (j : Int)) S) (kc W c45 [1, 1, 0, 1, 0] f45) = some (.bool (decide (la.drop j = lb.drop j)), S) := by
  induction n with
  | zero =>
    intro j hn y2 y3 y6 y7 y8 y9 y10
    have hx : ¬ ((j : Int) < (la.length : Int)) := by omega
    rw [List.drop_eq_nil_of_le (by omega), List.drop_eq_nil_of_le (by omega)]
    rw [r45_11010]
    simp -implicitDefEqProofs (maxSteps := 1000000) (disch := (refine id ?_; first | ((fail_if_success (with_reducible apply isT_of)); (fail_if_success (first | fail)); first | omega | fail))) only [hx, k45_11010_0, ↓bindV_some, ↓bindO_some, ↓condB_true, ↓condB_false, bindV_some, bindO_some, wrap64, ↓condK_B, bin_add, bin_lss, aggOf_some, eq_self, decide_true, decide_false, and_self, true_and, Bool.not_true, Bool.not_false, Bool.true_and, Bool.and_self, Nat.reduceAdd, Nat.reduceSub, Nat.reduceMul, Nat.reduceLeDiff, Nat.reduceLT, Nat.reduceEqDiff, Int.reduceLE, Int.reduceLT, Int.reduceAdd, Int.reduceNeg, Int.reduceEq, Int.reduceSub, Int.reduceMul, Int.reduceToNat, Int.toNat_natCast, ↓reduceIte, reduceCtorEq, ix_23, ld_32, bsneq_32]
  | succ n ih =>
    intro j hn y2 y3 y6 y7 y8 y9 y10
    have hja : j < la.length := by omega
    have hjb : j < lb.length := by omega
    have hx : (j : Int) < (la.length : Int) := by omega
    have hxb : (j : Int) < (lb.length : Int) := by omega
    have e2 : IntKind.i64.wrap ((j : Int) + 1) = ((j + 1 : Nat) : Int) := by rw [wrap64 (by omega) (by omega)]; omega
    have ih := fun y2 y3 y6 y7 y8 y9 y10 => ih (j + 1) (by omega) y2 y3 y6 y7 y8 y9 y10
    obtain ⟨ba, oa, ca, rfl, hba, hra⟩ := ra.at (by omega)
    obtain ⟨bb, ob, cb, rfl, hbb, hrb⟩ := rb.at (by omega)
    have e5a := (hra j hja).1
    rw [show NT.k = 4 from rfl, show NT.cs la[j] = [.int .i64 la[j].f, .int .u32 (la[j].t : Int), .int .i64 la[j].ph, .int .i64 la[j].sz] from rfl] at e5a
    have e5b := (hrb j hjb).1
    rw [show NT.k = 4 from rfl, show NT.cs lb[j] = [.int .i64 lb[j].f, .int .u32 (lb[j].t : Int), .int .i64 lb[j].ph, .int .i64 lb[j].sz] from rfl] at e5b
    rw [List.drop_eq_getElem_cons hja, List.drop_eq_getElem_cons hjb]
    have ed : decide (la[j] :: la.drop (j + 1) = lb[j] :: lb.drop (j + 1)) = decide (la[j] = lb[j] ∧ la.drop (j + 1) = lb.drop (j + 1)) := by rw [Bool.eq_iff_iff, decide_eq_true_iff, decide_eq_true_iff, List.cons.injEq]
    rw [ed]
    clear hra hrb ed ra rb
    generalize la[j] = x at e5a ⊢
    generalize lb[j] = y at e5b ⊢
    have hN := g.n; have hL : S.lock ≤ S.c := g.ok.1
    rw [r45_11010]
    by_cases hxy : x = y
    · subst hxy
      simp -implicitDefEqProofs (maxSteps := 1000000) (disch := (refine id ?_; first | ((fail_if_success (with_reducible apply isT_of)); (fail_if_success (first | fail)); first | omega | fail))) only [hx, hxb, e2, e5a, e5b, ↓bindV_some, ↓bindO_some, ↓condB_true, ↓condB_false, bindV_some, bindO_some, wrap64, ↓condK_B, bin_add, bin_lss, aggOf_some, eq_self, decide_true, decide_false, and_self, true_and, Bool.not_true, Bool.not_false, Bool.true_and, Bool.and_self, Nat.reduceAdd, Nat.reduceSub, Nat.reduceMul, Nat.reduceLeDiff, Nat.reduceLT, Nat.reduceEqDiff, Int.reduceLE, Int.reduceLT, Int.reduceAdd, Int.reduceNeg, Int.reduceEq, Int.reduceSub, Int.reduceMul, Int.reduceToNat, Int.toNat_natCast, ↓reduceIte, reduceCtorEq, ix_23, ld_32, bsneq_32]
      exact ih _ _ _ _ _ _ _
    · have hne := hxy
      rw [en_eq] at hne
      rw [decide_eq_false (fun h => hxy h.1)]
      simp -implicitDefEqProofs (maxSteps := 1000000) (disch := (refine id ?_; first | ((fail_if_success (with_reducible apply isT_of)); (fail_if_success (first | fail)); first | omega | fail))) only [hx, hxb, e2, e5a, e5b, hne, k45_11010_ret, ↓bindV_some, ↓bindO_some, ↓condB_true, ↓condB_false, bindV_some, bindO_some, wrap64, ↓condK_B, bin_add, bin_lss, aggOf_some, eq_self, decide_true, decide_false, and_self, true_and, Bool.not_true, Bool.not_false, Bool.true_and, Bool.and_self, Nat.reduceAdd, Nat.reduceSub, Nat.reduceMul, Nat.reduceLeDiff, Nat.reduceLT, Nat.reduceEqDiff, Int.reduceLE, Int.reduceLT, Int.reduceAdd, Int.reduceNeg, Int.reduceEq, Int.reduceSub, Int.reduceMul, Int.reduceToNat, Int.toNat_natCast, ↓reduceIte, reduceCtorEq, ix_23, ld_32, bsneq_32]
theorem Eq45 (g : Gd W S) (la lb : List En) (hla : la.length ≤ 2 ^ 60) {va vb : Value} (ra : Rd NT W S va la) (rb : Rd NT W S vb lb) : cw W 45 #[va, vb] S = some (.bool (decide (la = lb)), S) := by
  have ha : [va, vb].all (vlt S.c) = true := by rw [List.all_cons, vlt_rd ra, List.all_cons, vlt_rd rb]; rfl
  have ra' := ra
  have rb' := rb
  obtain ⟨aa, ca, rfl⟩ := ra.form
  obtain ⟨ab, cb, rfl⟩ := rb.form
  rw [eq45]
  have hN := g.n; have hL : S.lock ≤ S.c := g.ok.1
  by_cases hl : la.length = lb.length
  · have hl' : ((la.length : Int) = (lb.length : Int)) = True := eq_true (by omega)
    have lp := fun y2 y3 y6 y7 y8 y9 y10 => eq_loop45 g la lb hl hla ra' rb' la.length 0 rfl y2 y3 y6 y7 y8 y9 y10
    rw [cast0] at lp
    rw [List.drop_zero, List.drop_zero] at lp
    simp -implicitDefEqProofs (maxSteps := 1000000) (disch := (refine id ?_; first | ((fail_if_success (with_reducible apply isT_of)); (fail_if_success (first | fail)); first | omega | (with_reducible apply Gd.cl; with_reducible assumption) | with_reducible exact Low.rfl' _ | (simp only [flatR_int, flatR_bool, flatR_string, flatR_tuple, flatR_agg, flat_int, flat_bool, flat_string, flat_agg, flat0_int, flat0_bool, flat0_string, List.all_cons, List.all_nil, Bool.and_self, Bool.and_true, Bool.true_and]; done) | fail))) only [hl', lp, ha, gcR_some, ↓bindV_some, ↓condB_true, ↓condB_false, bindV_some, ↓condK_B, bin_neq, cast0, eq_self, decide_true, decide_false, Bool.not_true, Bool.not_false, List.drop_zero, List.all_cons, Nat.reduceAdd, Nat.reduceSub, Nat.reduceMul, Nat.reduceLeDiff, Nat.reduceLT, Nat.reduceEqDiff, Int.reduceLE, Int.reduceLT, Int.reduceAdd, Int.reduceNeg, Int.reduceEq, Int.reduceSub, Int.reduceMul, Int.reduceToNat, ↓reduceIte, reduceCtorEq, len_23]
  · have hl' : ¬ ((la.length : Int) = (lb.length : Int)) := by omega
    rw [decide_eq_false (fun h => hl (congrArg List.length h))]
    simp -implicitDefEqProofs (maxSteps := 1000000) (disch := (refine id ?_; first | ((fail_if_success (with_reducible apply isT_of)); (fail_if_success (first | fail)); first | omega | (with_reducible apply Gd.cl; with_reducible assumption) | with_reducible exact Low.rfl' _ | (simp only [flatR_int, flatR_bool, flatR_string, flatR_tuple, flatR_agg, flat_int, flat_bool, flat_string, flat_agg, flat0_int, flat0_bool, flat0_string, List.all_cons, List.all_nil, Bool.and_self, Bool.and_true, Bool.true_and]; done) | fail))) only [hl', ha, gcR_some, ↓bindV_some, ↓condB_true, ↓condB_false, bindV_some, ↓condK_B, bin_neq, cast0, eq_self, decide_true, decide_false, Bool.not_true, Bool.not_false, List.drop_zero, List.all_cons, Nat.reduceAdd, Nat.reduceSub, Nat.reduceMul, Nat.reduceLeDiff, Nat.reduceLT, Nat.reduceEqDiff, Int.reduceLE, Int.reduceLT, Int.reduceAdd, Int.reduceNeg, Int.reduceEq, Int.reduceSub, Int.reduceMul, Int.reduceToNat, ↓reduceIte, reduceCtorEq, len_23]
theorem eq_loop46 (g : Gd W S) (la lb : List Lk) (hl : la.length = lb.length) (hlen : la.length ≤ 2 ^ 60) {va vb : Value} (ra : Rd KT W S va la) (rb : Rd KT W S vb lb) (n : Nat) : ∀ (j : Nat) (hn : n + j = la.length) (y2 y3 y6 y7 y8 y9 y10 : Value),
    bindO (l46_11010 W va vb y2 y3 y6 y7 y8 y9 y10 va (.int .i64 (la.length : Int)) (.int .i64 (j : Int)) S) (kc W c46 [1, 1, 0, 1, 0] f46) = some (.bool (decide (la.drop j = lb.drop j)), S) := by
  induction n with
  | zero =>
    intro j hn y2 y3 y6 y7 y8 y9 y10
    have hx : ¬ ((j : Int) < (la.length : Int)) := by omega
    rw [List.drop_eq_nil_of_le (by omega), List.drop_eq_nil_of_le (by omega)]
    rw [r46_11010]
    simp -implicitDefEqProofs (maxSteps := 1000000) (disch := (refine id ?_; first | ((fail_if_success (with_reducible apply isT_of)); (fail_if_success (first | fail)); first | omega | fail))) only [hx, k46_11010_0, ↓bindV_some, ↓bindO_some, ↓condB_true, ↓condB_false, bindV_some, bindO_some, wrap64, ↓condK_B, bin_add, bin_lss, aggOf_some, eq_self, decide_true, decide_false, and_self, true_and, Bool.not_true, Bool.not_false, Bool.true_and, Bool.and_self, Nat.reduceAdd, Nat.reduceSub, Nat.reduceMul, Nat.reduceLeDiff, Nat.reduceLT, Nat.reduceEqDiff, Int.reduceLE, Int.reduceLT, Int.reduceAdd, Int.reduceNeg, Int.reduceEq, Int.reduceSub, Int.reduceMul, Int.reduceToNat, Int.toNat_natCast, ↓reduceIte, reduceCtorEq, ix_24, ld_47, bsneq_47]
  | succ n ih =>
    intro j hn y2 y3 y6 y7 y8 y9 y10
    have hja : j < la.length := by omega
    have hjb : j < lb.length := by omega
    have hx : (j : Int) < (la.length : Int) := by omega
    have hxb : (j : Int) < (lb.length : Int) := by omega
    have e2 : IntKind.i64.wrap ((j : Int) + 1) = ((j + 1 : Nat) : Int) := by rw [wrap64 (by omega) (by omega)]; omega
    have ih := fun y2 y3 y6 y7 y8 y9 y10 => ih (j + 1) (by omega) y2 y3 y6 y7 y8 y9 y10
    obtain ⟨ba, oa, ca, rfl, hba, hra⟩ := ra.at (by omega)
    obtain ⟨bb, ob, cb, rfl, hbb, hrb⟩ := rb.at (by omega)
    have e5a := (hra j hja).1
    rw [show KT.k = 4 from rfl, show KT.cs la[j] = [.int .i64 la[j].f, .int .u32 (la[j].t : Int), .int .i64 la[j].gap, .int .i64 la[j].sz] from rfl] at e5a
    have e5b := (hrb j hjb).1
    rw [show KT.k = 4 from rfl, show KT.cs lb[j] = [.int .i64 lb[j].f, .int .u32 (lb[j].t : Int), .int .i64 lb[j].gap, .int .i64 lb[j].sz] from rfl] at e5b
    rw [List.drop_eq_getElem_cons hja, List.drop_eq_getElem_cons hjb]
    have ed : decide (la[j] :: la.drop (j + 1) = lb[j] :: lb.drop (j + 1)) = decide (la[j] = lb[j] ∧ la.drop (j + 1) = lb.drop (j + 1)) := by rw [Bool.eq_iff_iff, decide_eq_true_iff, decide_eq_true_iff, List.cons.injEq]
    rw [ed]
    clear hra hrb ed ra rb
    generalize la[j] = x at e5a ⊢
    generalize lb[j] = y at e5b ⊢
    have hN := g.n; have hL : S.lock ≤ S.c := g.ok.1
    rw [r46_11010]
    by_cases hxy : x = y
    · subst hxy
      simp -implicitDefEqProofs (maxSteps := 1000000) (disch := (refine id ?_; first | ((fail_if_success (with_reducible apply isT_of)); (fail_if_success (first | fail)); first | omega | fail))) only [hx, hxb, e2, e5a, e5b, ↓bindV_some, ↓bindO_some, ↓condB_true, ↓condB_false, bindV_some, bindO_some, wrap64, ↓condK_B, bin_add, bin_lss, aggOf_some, eq_self, decide_true, decide_false, and_self, true_and, Bool.not_true, Bool.not_false, Bool.true_and, Bool.and_self, Nat.reduceAdd, Nat.reduceSub, Nat.reduceMul, Nat.reduceLeDiff, Nat.reduceLT, Nat.reduceEqDiff, Int.reduceLE, Int.reduceLT, Int.reduceAdd, Int.reduceNeg, Int.reduceEq, Int.reduceSub, Int.reduceMul, Int.reduceToNat, Int.toNat_natCast, ↓reduceIte, reduceCtorEq, ix_24, ld_47, bsneq_47]
      exact ih _ _ _ _ _ _ _
    · have hne := hxy
      rw [lk_eq] at hne
      rw [decide_eq_false (fun h => hxy h.1)]
      simp -implicitDefEqProofs (maxSteps := 1000000) (disch := (refine id ?_; first | ((fail_if_success (with_reducible apply isT_of)); (fail_if_success (first | fail)); first | omega | fail))) only [hx, hxb, e2, e5a, e5b, hne, k46_11010_ret, ↓bindV_some, ↓bindO_some, ↓condB_true, ↓condB_false, bindV_some, bindO_some, wrap64, ↓condK_B, bin_add, bin_lss, aggOf_some, eq_self, decide_true, decide_false, and_self, true_and, Bool.not_true, Bool.not_false, Bool.true_and, Bool.and_self, Nat.reduceAdd, Nat.reduceSub, Nat.reduceMul, Nat.reduceLeDiff, Nat.reduceLT, Nat.reduceEqDiff, Int.reduceLE, Int.reduceLT, Int.reduceAdd, Int.reduceNeg, Int.reduceEq, Int.reduceSub, Int.reduceMul, Int.reduceToNat, Int.toNat_natCast, ↓reduceIte, reduceCtorEq, ix_24, ld_47, bsneq_47]
theorem Eq46 (g : Gd W S) (la lb : List Lk) (hla : la.length ≤ 2 ^ 60) {va vb : Value} (ra : Rd KT W S va la) (rb : Rd KT W S vb lb) : cw W 46 #[va, vb] S = some (.bool (decide (la = lb)), S) := by
  have ha : [va, vb].all (vlt S.c) = true := by rw [List.all_cons, vlt_rd ra, List.all_cons, vlt_rd rb]; rfl
  have ra' := ra
  have rb' := rb
  obtain ⟨aa, ca, rfl⟩ := ra.form
  obtain ⟨ab, cb, rfl⟩ := rb.form
  rw [eq46]
  have hN := g.n; have hL : S.lock ≤ S.c := g.ok.1
  by_cases hl : la.length = lb.length
  · have hl' : ((la.length : Int) = (lb.length : Int)) = True := eq_true (by omega)
    have lp := fun y2 y3 y6 y7 y8 y9 y10 => eq_loop46 g la lb hl hla ra' rb' la.length 0 rfl y2 y3 y6 y7 y8 y9 y10
    rw [cast0] at lp
    rw [List.drop_zero, List.drop_zero] at lp
    simp -implicitDefEqProofs (maxSteps := 1000000) (disch := (refine id ?_; first | ((fail_if_success (with_reducible apply isT_of)); (fail_if_success (first | fail)); first | omega | (with_reducible apply Gd.cl; with_reducible assumption) | with_reducible exact Low.rfl' _ | (simp only [flatR_int, flatR_bool, flatR_string, flatR_tuple, flatR_agg, flat_int, flat_bool, flat_string, flat_agg, flat0_int, flat0_bool, flat0_string, List.all_cons, List.all_nil, Bool.and_self, Bool.and_true, Bool.true_and]; done) | fail))) only [hl', lp, ha, gcR_some, ↓bindV_some, ↓condB_true, ↓condB_false, bindV_some, ↓condK_B, bin_neq, cast0, eq_self, decide_true, decide_false, Bool.not_true, Bool.not_false, List.drop_zero, List.all_cons, Nat.reduceAdd, Nat.reduceSub, Nat.reduceMul, Nat.reduceLeDiff, Nat.reduceLT, Nat.reduceEqDiff, Int.reduceLE, Int.reduceLT, Int.reduceAdd, Int.reduceNeg, Int.reduceEq, Int.reduceSub, Int.reduceMul, Int.reduceToNat, ↓reduceIte, reduceCtorEq, len_24]
  · have hl' : ¬ ((la.length : Int) = (lb.length : Int)) := by omega
    rw [decide_eq_false (fun h => hl (congrArg List.length h))]
    simp -implicitDefEqProofs (maxSteps := 1000000) (disch := (refine id ?_; first | ((fail_if_success (with_reducible apply isT_of)); (fail_if_success (first | fail)); first | omega | (with_reducible apply Gd.cl; with_reducible assumption) | with_reducible exact Low.rfl' _ | (simp only [flatR_int, flatR_bool, flatR_string, flatR_tuple, flatR_agg, flat_int, flat_bool, flat_string, flat_agg, flat0_int, flat0_bool, flat0_string, List.all_cons, List.all_nil, Bool.and_self, Bool.and_true, Bool.true_and]; done) | fail))) only [hl', ha, gcR_some, ↓bindV_some, ↓condB_true, ↓condB_false, bindV_some, ↓condK_B, bin_neq, cast0, eq_self, decide_true, decide_false, Bool.not_true, Bool.not_false, List.drop_zero, List.all_cons, Nat.reduceAdd, Nat.reduceSub, Nat.reduceMul, Nat.reduceLeDiff, Nat.reduceLT, Nat.reduceEqDiff, Int.reduceLE, Int.reduceLT, Int.reduceAdd, Int.reduceNeg, Int.reduceEq, Int.reduceSub, Int.reduceMul, Int.reduceToNat, ↓reduceIte, reduceCtorEq, len_24]
end
end Go.Proofs.Ytogcdgdnjinjkaa.F
end
section
namespace Go.Proofs.Ytogcdgdnjinjkaa.F
open Go Go.Proofs.Ytogcdgdnjinjkaa.E
set_option linter.unusedVariables false
set_option linter.unusedSimpArgs false
section
variable {W : World} {S : St}
def sameC (a b : Cfg) : Bool := decide (a.hosts = b.hosts) && decide (a.cycle = b.cycle) && decide (a.delay = b.delay) && decide (a.window = b.window) && decide (a.prec = b.prec) && decide (a.queue = b.queue) && decide (a.delays = b.delays) && decide (a.entries = b.entries) && decide (a.links = b.links)
theorem sameC_iff (a b : Cfg) : sameC a b = true ↔ a = b := by
  obtain ⟨a1, a2, a3, a4, a5, a6, a7, a8, a9⟩ := a
  obtain ⟨b1, b2, b3, b4, b5, b6, b7, b8, b9⟩ := b
  simp only [sameC, Bool.and_eq_true, decide_eq_true_eq, Cfg.mk.injEq, and_assoc]
  constructor
  · rintro ⟨h1, h2, h3, h4, h5, h6, h7, h8, h9⟩; exact ⟨h1, h2, h3, h4, h5, h7, h8, h9, h6⟩
  · rintro ⟨h1, h2, h3, h4, h5, h6, h7, h8, h9⟩; exact ⟨h1, h2, h3, h4, h5, h9, h6, h7, h8⟩
theorem ef_loop (g : Gd W S) (la lb : List Sv) (hl : la.length = lb.length) (hlen : la.length ≤ 2 ^ 60) {va vb : Value} (ra : Rd VT W S va la) (rb : Rd VT W S vb lb) (h3a : ∀ s ∈ la, Rd IT W S (.slice s.a s.n s.c) s.l ∧ s.l.length ≤ 2 ^ 60) (h3b : ∀ s ∈ lb, Rd IT W S (.slice s.a s.n s.c) s.l) (n : Nat) : ∀ (j : Nat) (hn : n + j = la.length) (y3 y4 y5 y10 y11 y12 y13 y14 : Value),
    bindO (l43_11010 W va vb (.func (.func 44) #[] #[]) y3 y4 y5 y10 y11 y12 y13 y14 va (.int .i64 (la.length : Int)) (.int .i64 (j : Int)) S) (kc W c43 [1, 1, 0, 1, 0] f43) = some (.bool (decide ((la.drop j).map (·.l) = (lb.drop j).map (·.l))), S) := by
  induction n with
  | zero =>
    intro j hn y3 y4 y5 y10 y11 y12 y13 y14
    have hx : ¬ ((j : Int) < (la.length : Int)) := by omega
    rw [List.drop_eq_nil_of_le (by omega), List.drop_eq_nil_of_le (by omega)]
    rw [r43_11010]
    simp -implicitDefEqProofs (maxSteps := 1000000) (disch := (refine id ?_; first | with_reducible assumption | ((fail_if_success (with_reducible apply isT_of)); (fail_if_success (first | with_reducible refine nat_lt_id ?_ | with_reducible refine nat_le_id ?_ | with_reducible refine nat_ne_id ?_)); first | (simp +arith only [new_c, new_lock, upd_c, upd_lock, relock_c, relock_lock]; done) | (refine Nat.le_trans hN ?_; simp +arith only [new_c, new_lock, upd_c, upd_lock, relock_c, relock_lock]; done) | (refine Nat.le_trans hL ?_; simp +arith only [new_c, new_lock, upd_c, upd_lock, relock_c, relock_lock]; done) | omega | (simp only [new_c, new_lock, upd_c, upd_lock, relock_c, relock_lock] <;> omega) | (simp (disch := (simp only [new_c, upd_c, relock_c] <;> omega)) only [new_at, new_lo, upd_self, upd_lo, relock_heap]; done) | fail))) only [hx, k43_11010_0, ↓bindV_some, ↓bindS_some, ↓bindO_some, ↓condB_true, ↓condB_false, bindV_some, bindS_some, bindO_some, wrap64, ↓condK_B, bin_add, bin_lss, un_not, nth_zero, eq_self, decide_true, decide_false, Bool.not_true, Bool.not_false, Nat.add_zero, Nat.reduceAdd, Nat.reduceSub, Nat.reduceMul, Nat.reduceLeDiff, Nat.reduceLT, Nat.reduceEqDiff, Int.reduceLE, Int.reduceLT, Int.reduceAdd, Int.reduceNeg, Int.reduceEq, Int.reduceSub, Int.reduceMul, Int.reduceToNat, Int.toNat_natCast, Nat.mul_one, ↓reduceIte, reduceCtorEq, call_44, ix_22, ld_45]
  | succ n ih =>
    intro j hn y3 y4 y5 y10 y11 y12 y13 y14
    have hja : j < la.length := by omega
    have hjb : j < lb.length := by omega
    have hx : (j : Int) < (la.length : Int) := by omega
    have hxb : (j : Int) < (lb.length : Int) := by omega
    have e2 : IntKind.i64.wrap ((j : Int) + 1) = ((j + 1 : Nat) : Int) := by rw [wrap64 (by omega) (by omega)]; omega
    have ih := fun y3 y4 y5 y10 y11 y12 y13 y14 => ih (j + 1) (by omega) y3 y4 y5 y10 y11 y12 y13 y14
    obtain ⟨ba, oa, ca, rfl, hba, hra⟩ := ra.at (by omega)
    obtain ⟨bb, ob, cb, rfl, hbb, hrb⟩ := rb.at (by omega)
    have e5a := (hra j hja).2 0 (by decide)
    rw [show VT.k = 1 from rfl, show VT.cs la[j] = [.slice la[j].a la[j].n la[j].c] from rfl, Nat.mul_one, Nat.add_zero, nth_zero] at e5a
    have e5b := (hrb j hjb).2 0 (by decide)
    rw [show VT.k = 1 from rfl, show VT.cs lb[j] = [.slice lb[j].a lb[j].n lb[j].c] from rfl, Nat.mul_one, Nat.add_zero, nth_zero] at e5b
    have f3a := h3a la[j] (List.getElem_mem hja)
    have f3b := h3b lb[j] (List.getElem_mem hjb)
    rw [List.drop_eq_getElem_cons hja, List.drop_eq_getElem_cons hjb, List.map_cons, List.map_cons]
    have ed : decide (la[j].l :: (la.drop (j + 1)).map (·.l) = lb[j].l :: (lb.drop (j + 1)).map (·.l)) = decide (la[j].l = lb[j].l ∧ (la.drop (j + 1)).map (·.l) = (lb.drop (j + 1)).map (·.l)) := by rw [Bool.eq_iff_iff, decide_eq_true_iff, decide_eq_true_iff, List.cons.injEq]
    rw [ed]
    clear hra hrb ed ra rb h3a h3b
    generalize la[j] = x at e5a f3a ⊢
    generalize lb[j] = y at e5b f3b ⊢
    have eE := Eq44 g x.l y.l f3a.2 f3a.1 f3b
    have hN := g.n; have hL : S.lock ≤ S.c := g.ok.1
    rw [r43_11010]
    by_cases hxy : x.l = y.l
    · rw [decide_eq_true hxy] at eE
      simp -implicitDefEqProofs (maxSteps := 1000000) (disch := (refine id ?_; first | with_reducible assumption | ((fail_if_success (with_reducible apply isT_of)); (fail_if_success (first | with_reducible refine nat_lt_id ?_ | with_reducible refine nat_le_id ?_ | with_reducible refine nat_ne_id ?_)); first | (simp +arith only [new_c, new_lock, upd_c, upd_lock, relock_c, relock_lock]; done) | (refine Nat.le_trans hN ?_; simp +arith only [new_c, new_lock, upd_c, upd_lock, relock_c, relock_lock]; done) | (refine Nat.le_trans hL ?_; simp +arith only [new_c, new_lock, upd_c, upd_lock, relock_c, relock_lock]; done) | omega | (simp only [new_c, new_lock, upd_c, upd_lock, relock_c, relock_lock] <;> omega) | (simp (disch := (simp only [new_c, upd_c, relock_c] <;> omega)) only [new_at, new_lo, upd_self, upd_lo, relock_heap]; done) | fail))) only [hx, hxb, e2, e5a, e5b, eE, ↓bindV_some, ↓bindS_some, ↓bindO_some, ↓condB_true, ↓condB_false, bindV_some, bindS_some, bindO_some, wrap64, ↓condK_B, bin_add, bin_lss, un_not, nth_zero, eq_self, decide_true, decide_false, Bool.not_true, Bool.not_false, Nat.add_zero, Nat.reduceAdd, Nat.reduceSub, Nat.reduceMul, Nat.reduceLeDiff, Nat.reduceLT, Nat.reduceEqDiff, Int.reduceLE, Int.reduceLT, Int.reduceAdd, Int.reduceNeg, Int.reduceEq, Int.reduceSub, Int.reduceMul, Int.reduceToNat, Int.toNat_natCast, Nat.mul_one, ↓reduceIte, reduceCtorEq, call_44, ix_22, ld_45]
      refine (ih _ _ _ _ _ _ _ _).trans ?_
      refine congrArg (fun b => some (Value.bool b, S)) ?_
      rw [Bool.eq_iff_iff, decide_eq_true_iff, decide_eq_true_iff]
      exact ⟨fun h => ⟨hxy, h⟩, fun h => h.2⟩
    · rw [decide_eq_false hxy] at eE
      rw [decide_eq_false (fun h => hxy h.1)]
      simp -implicitDefEqProofs (maxSteps := 1000000) (disch := (refine id ?_; first | with_reducible assumption | ((fail_if_success (with_reducible apply isT_of)); (fail_if_success (first | with_reducible refine nat_lt_id ?_ | with_reducible refine nat_le_id ?_ | with_reducible refine nat_ne_id ?_)); first | (simp +arith only [new_c, new_lock, upd_c, upd_lock, relock_c, relock_lock]; done) | (refine Nat.le_trans hN ?_; simp +arith only [new_c, new_lock, upd_c, upd_lock, relock_c, relock_lock]; done) | (refine Nat.le_trans hL ?_; simp +arith only [new_c, new_lock, upd_c, upd_lock, relock_c, relock_lock]; done) | omega | (simp only [new_c, new_lock, upd_c, upd_lock, relock_c, relock_lock] <;> omega) | (simp (disch := (simp only [new_c, upd_c, relock_c] <;> omega)) only [new_at, new_lo, upd_self, upd_lo, relock_heap]; done) | fail))) only [hx, hxb, e2, e5a, e5b, eE, k43_11010_ret, ↓bindV_some, ↓bindS_some, ↓bindO_some, ↓condB_true, ↓condB_false, bindV_some, bindS_some, bindO_some, wrap64, ↓condK_B, bin_add, bin_lss, un_not, nth_zero, eq_self, decide_true, decide_false, Bool.not_true, Bool.not_false, Nat.add_zero, Nat.reduceAdd, Nat.reduceSub, Nat.reduceMul, Nat.reduceLeDiff, Nat.reduceLT, Nat.reduceEqDiff, Int.reduceLE, Int.reduceLT, Int.reduceAdd, Int.reduceNeg, Int.reduceEq, Int.reduceSub, Int.reduceMul, Int.reduceToNat, Int.toNat_natCast, Nat.mul_one, ↓reduceIte, reduceCtorEq, call_44, ix_22, ld_45]
theorem EqF (g : Gd W S) (la lb : List Sv) (hla : la.length ≤ 2 ^ 60) {va vb : Value} (ra : Rd VT W S va la) (rb : Rd VT W S vb lb) (h3a : ∀ s ∈ la, Rd IT W S (.slice s.a s.n s.c) s.l ∧ s.l.length ≤ 2 ^ 60) (h3b : ∀ s ∈ lb, Rd IT W S (.slice s.a s.n s.c) s.l) : cw W 43 #[va, vb, (.func (.func 44) #[] #[])] S = some (.bool (decide (la.map (·.l) = lb.map (·.l))), S) := by
  have ha : [va, vb, (.func (.func 44) #[] #[])].all (vlt S.c) = true := by rw [List.all_cons, vlt_rd ra, List.all_cons, vlt_rd rb, List.all_cons, vlt_func]; rfl
  have ra' := ra
  have rb' := rb
  obtain ⟨aa, ca, rfl⟩ := ra.form
  obtain ⟨ab, cb, rfl⟩ := rb.form
  rw [eq43]
  have hN := g.n; have hL : S.lock ≤ S.c := g.ok.1
  by_cases hl : la.length = lb.length
  · have hl' : ((la.length : Int) = (lb.length : Int)) = True := eq_true (by omega)
    have lp := fun y3 y4 y5 y10 y11 y12 y13 y14 => ef_loop g la lb hl hla ra' rb' h3a h3b la.length 0 rfl y3 y4 y5 y10 y11 y12 y13 y14
    rw [cast0] at lp
    rw [List.drop_zero, List.drop_zero] at lp
    simp -implicitDefEqProofs (maxSteps := 1000000) (disch := (refine id ?_; first | with_reducible assumption | (with_reducible refine IsT.left ?_; with_reducible assumption) | (with_reducible refine IsT.left (IsT.left ?_); with_reducible assumption) | ((fail_if_success (with_reducible apply isT_of)); (fail_if_success (first | with_reducible refine nat_lt_id ?_ | with_reducible refine nat_le_id ?_ | with_reducible refine nat_ne_id ?_)); first | (simp +arith only [new_c, new_lock, upd_c, upd_lock, relock_c, relock_lock]; done) | (refine Nat.le_trans hN ?_; simp +arith only [new_c, new_lock, upd_c, upd_lock, relock_c, relock_lock]; done) | (refine Nat.le_trans hL ?_; simp +arith only [new_c, new_lock, upd_c, upd_lock, relock_c, relock_lock]; done) | omega | (with_reducible apply Gd.cl; with_reducible assumption) | (simp only [new_c, new_lock, upd_c, upd_lock, relock_c, relock_lock] <;> omega) | with_reducible exact Low.rfl' _ | (simp (disch := (simp only [new_c, upd_c, relock_c] <;> omega)) only [new_at, new_lo, upd_self, upd_lo, relock_heap]; done) | (simp only [flatR_int, flatR_bool, flatR_string, flatR_tuple, flatR_agg, flat_int, flat_bool, flat_string, flat_agg, flat0_int, flat0_bool, flat0_string, List.all_cons, List.all_nil, Bool.and_self, Bool.and_true, Bool.true_and]; done) | fail))) only [hl', lp, ha, gcR_some, ↓bindV_some, ↓condB_true, ↓condB_false, bindV_some, ↓condK_B, bin_neq, cast0, eq_self, decide_true, decide_false, Bool.not_true, Bool.not_false, List.drop_zero, List.all_cons, Nat.reduceAdd, Nat.reduceSub, Nat.reduceMul, Nat.reduceLeDiff, Nat.reduceLT, Nat.reduceEqDiff, Int.reduceLE, Int.reduceLT, Int.reduceAdd, Int.reduceNeg, Int.reduceEq, Int.reduceSub, Int.reduceMul, Int.reduceToNat, ↓reduceIte, reduceCtorEq, len_22]
  · have hl' : ¬ ((la.length : Int) = (lb.length : Int)) := by omega
    rw [decide_eq_false (fun h => hl (by have := congrArg List.length h; rw [List.length_map, List.length_map] at this; exact this))]
    simp -implicitDefEqProofs (maxSteps := 1000000) (disch := (refine id ?_; first | with_reducible assumption | (with_reducible refine IsT.left ?_; with_reducible assumption) | (with_reducible refine IsT.left (IsT.left ?_); with_reducible assumption) | ((fail_if_success (with_reducible apply isT_of)); (fail_if_success (first | with_reducible refine nat_lt_id ?_ | with_reducible refine nat_le_id ?_ | with_reducible refine nat_ne_id ?_)); first | (simp +arith only [new_c, new_lock, upd_c, upd_lock, relock_c, relock_lock]; done) | (refine Nat.le_trans hN ?_; simp +arith only [new_c, new_lock, upd_c, upd_lock, relock_c, relock_lock]; done) | (refine Nat.le_trans hL ?_; simp +arith only [new_c, new_lock, upd_c, upd_lock, relock_c, relock_lock]; done) | omega | (with_reducible apply Gd.cl; with_reducible assumption) | (simp only [new_c, new_lock, upd_c, upd_lock, relock_c, relock_lock] <;> omega) | with_reducible exact Low.rfl' _ | (simp (disch := (simp only [new_c, upd_c, relock_c] <;> omega)) only [new_at, new_lo, upd_self, upd_lo, relock_heap]; done) | (simp only [flatR_int, flatR_bool, flatR_string, flatR_tuple, flatR_agg, flat_int, flat_bool, flat_string, flat_agg, flat0_int, flat0_bool, flat0_string, List.all_cons, List.all_nil, Bool.and_self, Bool.and_true, Bool.true_and]; done) | fail))) only [hl', ha, gcR_some, ↓bindV_some, ↓condB_true, ↓condB_false, bindV_some, ↓condK_B, bin_neq, cast0, eq_self, decide_true, decide_false, Bool.not_true, Bool.not_false, List.drop_zero, List.all_cons, Nat.reduceAdd, Nat.reduceSub, Nat.reduceMul, Nat.reduceLeDiff, Nat.reduceLT, Nat.reduceEqDiff, Int.reduceLE, Int.reduceLT, Int.reduceAdd, Int.reduceNeg, Int.reduceEq, Int.reduceSub, Int.reduceMul, Int.reduceToNat, ↓reduceIte, reduceCtorEq, len_22]
theorem Equal_eq (g : Gd W S) (a b : Cfg) (qa qb : Pl) (h : CfgAt W S a qa) (k : CfgAt W S b qb) : cw W 25 #[cvl a qa, cvl b qb] S = some (.bool (sameC a b), S) := by
  rw [eq25]
  have hN := g.n; have hL : S.lock ≤ S.c := g.ok.1
  have hqa := h.vlt
  have hqb := k.vlt
  have g1 := g.new (o := .row (ccs a qa) 0) (objLt_mono (Nat.le_succ _) (cvl_obj hqa))
  have g2 := g1.new (o := .row (ccs b qb) 0) (objLt_mono (Nat.le_succ _) (cvl_obj (vlt_mono (Nat.le_succ _) hqb)))
  have lw : Low S ((S.new (.row (ccs a qa) 0)).new (.row (ccs b qb) 0)) := Low.new (Low.new (Low.rfl' S) _) _
  have ha : [cvl a qa, cvl b qb].all (vlt S.c) = true := by rw [List.all_cons, hqa, List.all_cons, hqb]; rfl
  have h2 := h.low lw
  have k2 := k.low lw
  obtain ⟨sa, a1, a2, a3⟩ := h2.del
  obtain ⟨sb, b1, b2, b3⟩ := k2.del
  have e1 := EqF g2 sa sb (by have := h.ld; have := congrArg List.length a2; rw [List.length_map] at this; omega) a1 b1 (fun s hs => ⟨a3 s hs, h.ldd _ (by rw [← a2]; exact List.mem_map_of_mem hs)⟩) b3
  rw [a2, b2] at e1
  have e2 := Eq45 g2 a.entries b.entries h.le h2.ent k2.ent
  have e3 := Eq46 g2 a.links b.links h.ll h2.lnk k2.lnk
  simp -implicitDefEqProofs (maxSteps := 1000000) (disch := (refine id ?_; first | with_reducible assumption | (with_reducible refine IsT.left ?_; with_reducible assumption) | (with_reducible refine IsT.left (IsT.left ?_); with_reducible assumption) | ((first | with_reducible refine nat_lt_id ?_ | with_reducible refine nat_le_id ?_ | with_reducible refine nat_ne_id ?_); (first | (simp +arith only [new_c, new_lock, upd_c, upd_lock, relock_c, relock_lock]; done) | (simp only [new_c, new_lock, upd_c, upd_lock, relock_c, relock_lock]; with_reducible assumption) | (refine Nat.le_trans hN ?_; simp +arith only [new_c, new_lock, upd_c, upd_lock, relock_c, relock_lock]; done) | (refine Nat.le_trans hL ?_; simp +arith only [new_c, new_lock, upd_c, upd_lock, relock_c, relock_lock]; done) | fail)) | ((fail_if_success (with_reducible apply isT_of)); (fail_if_success (first | with_reducible refine nat_lt_id ?_ | with_reducible refine nat_le_id ?_ | with_reducible refine nat_ne_id ?_)); first | (simp +arith only [new_c, new_lock, upd_c, upd_lock, relock_c, relock_lock]; done) | (refine Nat.le_trans hN ?_; simp +arith only [new_c, new_lock, upd_c, upd_lock, relock_c, relock_lock]; done) | (refine Nat.le_trans hL ?_; simp +arith only [new_c, new_lock, upd_c, upd_lock, relock_c, relock_lock]; done) | omega | (with_reducible apply Gd.cl; with_reducible assumption) | (simp only [new_c, new_lock, upd_c, upd_lock, relock_c, relock_lock] <;> omega) | with_reducible exact Low.rfl' _ | (simp (disch := (simp only [new_c, upd_c, relock_c] <;> omega)) only [new_at, new_lo, upd_self, upd_lo, relock_heap]; done) | (simp only [flatR_int, flatR_bool, flatR_string, flatR_tuple, flatR_agg, flat_int, flat_bool, flat_string, flat_agg, flat0_int, flat0_bool, flat0_string, List.all_cons, List.all_nil, Bool.and_self, Bool.and_true, Bool.true_and]; done) | fail))) only [e1, e2, e3, ha, gcR_some, ↓bindV_some, ↓bindS_some, bindV_some, bindS_some, ↓gV_t, wV_pos, wO_val, wS_val, pick_and, bin_eql, box_agg, cell_at, cellOf_row, nth_zero, nth_succ, eq_self, new_at, new_lo, new_c, Nat.zero_add, List.all_cons, Nat.reduceAdd, Nat.reduceSub, Nat.reduceMul, Nat.reduceLeDiff, Nat.reduceLT, Nat.reduceEqDiff, Int.reduceLE, Int.reduceLT, Int.reduceAdd, Int.reduceNeg, Int.reduceEq, Int.reduceSub, Int.reduceMul, Int.reduceToNat, ↓reduceIte, reduceCtorEq, call_43, call_45, call_46, ld_2, ld_3, ld_22, ld_23, ld_24, fa_26_0, fa_26_1, fa_26_2, fa_26_3, fa_26_4, fa_26_5, fa_26_6, fa_26_7, fa_26_8]
  rfl
end
end Go.Proofs.Ytogcdgdnjinjkaa.F
end
section
namespace Go.Proofs.Ytogcdgdnjinjkaa.F
open Go Go.Proofs.Ytogcdgdnjinjkaa.E
set_option linter.unusedVariables false
set_option linter.unusedSimpArgs false
section
variable {W : World} {S : St}
set_option maxRecDepth 100000 in
theorem slinks_loop (g : Gd W S) (a b : Cfg) (qa qb : Pl) {b1 b2 : Nat} (hb1 : S.heap b1 = .row (ccs a qa) 0) (hb2 : S.heap b2 = .row (ccs b qb) 0) (hW1 : W.heap.size ≤ b1) (hW2 : W.heap.size ≤ b2) (hl : a.links.length = b.links.length) (hlen : a.links.length ≤ 2 ^ 60) (ra : Rd KT W S (.slice qa.al a.links.length qa.cl) a.links) (rb : Rd KT W S (.slice qb.al b.links.length qb.cl) b.links) (n : Nat) : ∀ (j : Nat) (hn : n + j = a.links.length) (y0 y1 y5 y6 y7 y9 y10 y11 y12 y13 y14 y15 y16 y17 y18 y19 y20 y21 y22 y23 y24 y25 y26 y27 y28 y29 y30 y31 y32 y33 y34 y35 y36 y37 y38 y39 y40 y41 y42 y43 y44 y45 y46 y47 y48 y49 y50 y51 y52 y53 y54 y55 y56 y57 y58 y59 y60 y61 y62 y63 y64 y65 y66 y67 y68 y69 y70 y71 y72 y73 y74 y75 y76 y77 y78 y79 y80 y81 y82 y83 y84 y85 y86 y87 y88 y89 y90 y91 y92 y93 y94 y95 y96 y97 y98 y99 y100 y101 y102 y103 y104 y105 y106 y107 y108 y109 y110 y111 y112 y113 y114 y115 y116 y117 y118 y119 y120 y121 y122 y123 y124 y125 y126 y127 y128 y129 y130 y131 y132 y133 y134 y135 y136 y137 y138 y139 y140 : Value),
    bindO (l23_1111010 W y0 y1 (.pointer (some ⟨b1, 0, none⟩)) (.pointer (some ⟨b2, 0, none⟩)) y5 y6 y7 (.int .i64 (j : Int)) y9 y10 y11 y12 y13 y14 y15 y16 y17 y18 y19 y20 y21 y22 y23 y24 y25 y26 y27 y28 y29 y30 y31 y32 y33 y34 y35 y36 y37 y38 y39 y40 y41 y42 y43 y44 y45 y46 y47 y48 y49 y50 y51 y52 y53 y54 y55 y56 y57 y58 y59 y60 y61 y62 y63 y64 y65 y66 y67 y68 y69 y70 y71 y72 y73 y74 y75 y76 y77 y78 y79 y80 y81 y82 y83 y84 y85 y86 y87 y88 y89 y90 y91 y92 y93 y94 y95 y96 y97 y98 y99 y100 y101 y102 y103 y104 y105 y106 y107 y108 y109 y110 y111 y112 y113 y114 y115 y116 y117 y118 y119 y120 y121 y122 y123 y124 y125 y126 y127 y128 y129 y130 y131 y132 y133 y134 y135 y136 y137 y138 y139 y140 S) (kc W c23 [1, 1, 1, 1, 0, 1, 0] f23) = some (.bool (decide (a.links.drop j = b.links.drop j)), S) := by
  have hlt1 := row_lt g.ok hb1
  have hlt2 := row_lt g.ok hb2
  induction n with
  | zero =>
    intro j hn y0 y1 y5 y6 y7 y9 y10 y11 y12 y13 y14 y15 y16 y17 y18 y19 y20 y21 y22 y23 y24 y25 y26 y27 y28 y29 y30 y31 y32 y33 y34 y35 y36 y37 y38 y39 y40 y41 y42 y43 y44 y45 y46 y47 y48 y49 y50 y51 y52 y53 y54 y55 y56 y57 y58 y59 y60 y61 y62 y63 y64 y65 y66 y67 y68 y69 y70 y71 y72 y73 y74 y75 y76 y77 y78 y79 y80 y81 y82 y83 y84 y85 y86 y87 y88 y89 y90 y91 y92 y93 y94 y95 y96 y97 y98 y99 y100 y101 y102 y103 y104 y105 y106 y107 y108 y109 y110 y111 y112 y113 y114 y115 y116 y117 y118 y119 y120 y121 y122 y123 y124 y125 y126 y127 y128 y129 y130 y131 y132 y133 y134 y135 y136 y137 y138 y139 y140
    have hx : ¬ ((j : Int) < (a.links.length : Int)) := by omega
    rw [List.drop_eq_nil_of_le (by omega), List.drop_eq_nil_of_le (by omega)]
    have hN := g.n; have hL : S.lock ≤ S.c := g.ok.1
    rw [r23_1111010]
    simp -implicitDefEqProofs (maxSteps := 1000000) (disch := (refine id ?_; first | ((fail_if_success (with_reducible apply isT_of)); (fail_if_success (first | fail)); first | omega | fail))) only [hb1, hb2, hx, k23_1111010_6, ↓bindV_some, ↓bindO_some, ↓condB_false, bindV_some, bindO_some, wrap64, ↓condK_B, bin_add, bin_lss, cell_at, cellOf_row, nth_zero, nth_succ, eq_self, decide_true, decide_false, Nat.zero_add, reduceCtorEq, ld_24, len_24, fa_26_7]
    
  | succ n ih =>
    intro j hn y0 y1 y5 y6 y7 y9 y10 y11 y12 y13 y14 y15 y16 y17 y18 y19 y20 y21 y22 y23 y24 y25 y26 y27 y28 y29 y30 y31 y32 y33 y34 y35 y36 y37 y38 y39 y40 y41 y42 y43 y44 y45 y46 y47 y48 y49 y50 y51 y52 y53 y54 y55 y56 y57 y58 y59 y60 y61 y62 y63 y64 y65 y66 y67 y68 y69 y70 y71 y72 y73 y74 y75 y76 y77 y78 y79 y80 y81 y82 y83 y84 y85 y86 y87 y88 y89 y90 y91 y92 y93 y94 y95 y96 y97 y98 y99 y100 y101 y102 y103 y104 y105 y106 y107 y108 y109 y110 y111 y112 y113 y114 y115 y116 y117 y118 y119 y120 y121 y122 y123 y124 y125 y126 y127 y128 y129 y130 y131 y132 y133 y134 y135 y136 y137 y138 y139 y140
    have hja : j < a.links.length := by omega
    have hjb : j < b.links.length := by omega
    have hx : (j : Int) < (a.links.length : Int) := by omega
    have hxb : (j : Int) < (b.links.length : Int) := by omega
    have e2 : IntKind.i64.wrap ((j : Int) + 1) = ((j + 1 : Nat) : Int) := by rw [wrap64 (by omega) (by omega)]; omega
    have ih := ih (j + 1) (by omega)
    obtain ⟨ba, oa, ca, ea, hba, hra⟩ := ra.at (by omega)
    obtain ⟨bb, ob, cb, eb, hbb, hrb⟩ := rb.at (by omega)
    have eA : qa.al = some ⟨ba, oa, none⟩ := by injection ea
    have eB : qb.al = some ⟨bb, ob, none⟩ := by injection eb
    have e5a := (hra j hja).1
    rw [show KT.k = 4 from rfl, show KT.cs a.links[j] = [.int .i64 a.links[j].f, .int .u32 (a.links[j].t : Int), .int .i64 a.links[j].gap, .int .i64 a.links[j].sz] from rfl] at e5a
    have e5b := (hrb j hjb).1
    rw [show KT.k = 4 from rfl, show KT.cs b.links[j] = [.int .i64 b.links[j].f, .int .u32 (b.links[j].t : Int), .int .i64 b.links[j].gap, .int .i64 b.links[j].sz] from rfl] at e5b
    rw [List.drop_eq_getElem_cons hja, List.drop_eq_getElem_cons hjb]
    have ed : decide (a.links[j] :: a.links.drop (j + 1) = b.links[j] :: b.links.drop (j + 1)) = decide (a.links[j] = b.links[j] ∧ a.links.drop (j + 1) = b.links.drop (j + 1)) := by rw [Bool.eq_iff_iff, decide_eq_true_iff, decide_eq_true_iff, List.cons.injEq]
    rw [ed]
    clear hra hrb ed ra rb ea eb
    generalize a.links[j] = x at e5a ⊢
    generalize b.links[j] = y at e5b ⊢
    have hN := g.n; have hL : S.lock ≤ S.c := g.ok.1
    rw [r23_1111010]
    by_cases hxy : x = y
    · subst hxy
      simp -implicitDefEqProofs (maxSteps := 1000000) (disch := (refine id ?_; first | ((fail_if_success (with_reducible apply isT_of)); (fail_if_success (first | fail)); first | omega | fail))) only [hb1, hb2, eA, eB, hx, e2, e5a, e5b, ↓bindV_some, ↓condB_true, ↓condB_false, bindV_some, ↓condK_B, bin_add, bin_lss, cell_at, cellOf_row, nth_zero, nth_succ, aggOf_some, eq_self, decide_true, and_self, true_and, Bool.not_true, Nat.zero_add, Int.toNat_natCast, reduceCtorEq, ld_24, len_24, ix_24, fa_26_7, ld_47, bsneq_47]
      exact ih _ _ _ _ _ _ _ _ _ _ _ _ _ _ _ _ _ _ _ _ _ _ _ _ _ _ _ _ _ _ _ _ _ _ _ _ _ _ _ _ _ _ _ _ _ _ _ _ _ _ _ _ _ _ _ _ _ _ _ _ _ _ _ _ _ _ _ _ _ _ _ _ _ _ _ _ _ _ _ _ _ _ _ _ _ _ _ _ _ _ _ _ _ _ _ _ _ _ _ _ _ _ _ _ _ _ _ _ _ _ _ _ _ _ _ _ _ _ _ _ _ _ _ _ _ _ _ _ _ _ _ _ _ _ _ _ _
    · have hne := hxy
      rw [lk_eq] at hne
      rw [decide_eq_false (fun h => hxy h.1)]
      simp -implicitDefEqProofs (maxSteps := 1000000) (disch := (refine id ?_; first | ((fail_if_success (with_reducible apply isT_of)); (fail_if_success (first | fail)); first | omega | fail))) only [hb1, hb2, eA, eB, hx, e2, e5a, e5b, hne, k23_1111010_ret, ↓bindV_some, ↓bindO_some, ↓condB_true, bindV_some, bindO_some, ↓condK_B, bin_add, bin_lss, cell_at, cellOf_row, nth_zero, nth_succ, aggOf_some, eq_self, decide_true, decide_false, Bool.not_false, Nat.zero_add, Int.toNat_natCast, ld_24, len_24, ix_24, fa_26_7, ld_47, bsneq_47]
set_option maxRecDepth 100000 in
theorem sentries_loop (g : Gd W S) (a b : Cfg) (qa qb : Pl) {b1 b2 : Nat} (hb1 : S.heap b1 = .row (ccs a qa) 0) (hb2 : S.heap b2 = .row (ccs b qb) 0) (hW1 : W.heap.size ≤ b1) (hW2 : W.heap.size ≤ b2) (tail : ∀ y0 y1 y5 y6 y7 y9 y10 y11 y12 y13 y14 y15 y16 y17 y18 y19 y20 y21 y22 y23 y24 y25 y26 y27 y28 y29 y30 y31 y32 y33 y34 y35 y36 y37 y38 y39 y40 y41 y42 y43 y44 y45 y46 y47 y48 y49 y50 y51 y52 y53 y54 y55 y56 y57 y58 y59 y60 y61 y62 y63 y64 y65 y66 y67 y68 y69 y70 y71 y72 y73 y74 y75 y76 y77 y78 y79 y80 y81 y82 y83 y84 y85 y86 y87 y88 y89 y90 y91 y92 y93 y94 y95 y96 y97 y98 y99 y100 y101 y102 y103 y104 y105 y106 y107 y108 y109 y110 y111 y112 y113 y114 y115 y116 y117 y118 y119 y120 y121 y122 y123 y124 y125 y126 y127 y128 y129 y130 y131 y132 y133 y134 y135 y136 y137 y138 y139 y140 : Value, bindO (l23_1111010 W y0 y1 (.pointer (some ⟨b1, 0, none⟩)) (.pointer (some ⟨b2, 0, none⟩)) y5 y6 y7 (.int .i64 0) y9 y10 y11 y12 y13 y14 y15 y16 y17 y18 y19 y20 y21 y22 y23 y24 y25 y26 y27 y28 y29 y30 y31 y32 y33 y34 y35 y36 y37 y38 y39 y40 y41 y42 y43 y44 y45 y46 y47 y48 y49 y50 y51 y52 y53 y54 y55 y56 y57 y58 y59 y60 y61 y62 y63 y64 y65 y66 y67 y68 y69 y70 y71 y72 y73 y74 y75 y76 y77 y78 y79 y80 y81 y82 y83 y84 y85 y86 y87 y88 y89 y90 y91 y92 y93 y94 y95 y96 y97 y98 y99 y100 y101 y102 y103 y104 y105 y106 y107 y108 y109 y110 y111 y112 y113 y114 y115 y116 y117 y118 y119 y120 y121 y122 y123 y124 y125 y126 y127 y128 y129 y130 y131 y132 y133 y134 y135 y136 y137 y138 y139 y140 S) (kc W c23 [1, 1, 1, 1, 0, 1, 0] f23) = some (.bool (decide (a.links = b.links)), S)) (hl : a.entries.length = b.entries.length) (hlen : a.entries.length ≤ 2 ^ 60) (ra : Rd NT W S (.slice qa.ae a.entries.length qa.ce) a.entries) (rb : Rd NT W S (.slice qb.ae b.entries.length qb.ce) b.entries) (n : Nat) : ∀ (j : Nat) (hn : n + j = a.entries.length) (y0 y1 y5 y6 y8 y9 y10 y11 y12 y13 y14 y15 y16 y17 y18 y19 y20 y21 y22 y23 y24 y25 y26 y27 y28 y29 y30 y31 y32 y33 y34 y35 y36 y37 y38 y39 y40 y41 y42 y43 y44 y45 y46 y47 y48 y49 y50 y51 y52 y53 y54 y55 y56 y57 y58 y59 y60 y61 y62 y63 y64 y65 y66 y67 y68 y69 y70 y71 y72 y73 y74 y75 y76 y77 y78 y79 y80 y81 y82 y83 y84 y85 y86 y87 y88 y89 y90 y91 y92 y93 y94 y95 y96 y97 y98 y99 y100 y101 y102 y103 y104 y105 y106 y107 y108 y109 y110 y111 y112 y113 y114 y115 y116 y117 y118 y119 y120 y121 y122 y141 y142 y143 y144 y145 y146 y147 y148 y149 y150 y151 y152 y153 y154 y155 y156 y157 y158 : Value),
    bindO (l23_111010 W y0 y1 (.pointer (some ⟨b1, 0, none⟩)) (.pointer (some ⟨b2, 0, none⟩)) y5 y6 (.int .i64 (j : Int)) y8 y9 y10 y11 y12 y13 y14 y15 y16 y17 y18 y19 y20 y21 y22 y23 y24 y25 y26 y27 y28 y29 y30 y31 y32 y33 y34 y35 y36 y37 y38 y39 y40 y41 y42 y43 y44 y45 y46 y47 y48 y49 y50 y51 y52 y53 y54 y55 y56 y57 y58 y59 y60 y61 y62 y63 y64 y65 y66 y67 y68 y69 y70 y71 y72 y73 y74 y75 y76 y77 y78 y79 y80 y81 y82 y83 y84 y85 y86 y87 y88 y89 y90 y91 y92 y93 y94 y95 y96 y97 y98 y99 y100 y101 y102 y103 y104 y105 y106 y107 y108 y109 y110 y111 y112 y113 y114 y115 y116 y117 y118 y119 y120 y121 y122 y141 y142 y143 y144 y145 y146 y147 y148 y149 y150 y151 y152 y153 y154 y155 y156 y157 y158 S) (kc W c23 [1, 1, 1, 0, 1, 0] f23) = some (.bool (decide (a.entries.drop j = b.entries.drop j) && decide (a.links = b.links)), S) := by
  have hlt1 := row_lt g.ok hb1
  have hlt2 := row_lt g.ok hb2
  induction n with
  | zero =>
    intro j hn y0 y1 y5 y6 y8 y9 y10 y11 y12 y13 y14 y15 y16 y17 y18 y19 y20 y21 y22 y23 y24 y25 y26 y27 y28 y29 y30 y31 y32 y33 y34 y35 y36 y37 y38 y39 y40 y41 y42 y43 y44 y45 y46 y47 y48 y49 y50 y51 y52 y53 y54 y55 y56 y57 y58 y59 y60 y61 y62 y63 y64 y65 y66 y67 y68 y69 y70 y71 y72 y73 y74 y75 y76 y77 y78 y79 y80 y81 y82 y83 y84 y85 y86 y87 y88 y89 y90 y91 y92 y93 y94 y95 y96 y97 y98 y99 y100 y101 y102 y103 y104 y105 y106 y107 y108 y109 y110 y111 y112 y113 y114 y115 y116 y117 y118 y119 y120 y121 y122 y141 y142 y143 y144 y145 y146 y147 y148 y149 y150 y151 y152 y153 y154 y155 y156 y157 y158
    have hx : ¬ ((j : Int) < (a.entries.length : Int)) := by omega
    rw [List.drop_eq_nil_of_le (by omega), List.drop_eq_nil_of_le (by omega)]
    have hN := g.n; have hL : S.lock ≤ S.c := g.ok.1
    rw [r23_111010]
    simp -implicitDefEqProofs (maxSteps := 1000000) (disch := (refine id ?_; first | ((fail_if_success (with_reducible apply isT_of)); (fail_if_success (first | fail)); first | omega | fail))) only [hb1, hb2, hx, k23_111010_4, ↓bindV_some, ↓bindO_some, ↓condB_false, bindV_some, bindO_some, wrap64, ↓condK_B, bin_add, bin_lss, cell_at, cellOf_row, nth_zero, nth_succ, eq_self, decide_true, decide_false, Nat.zero_add, Bool.true_and, reduceCtorEq, ld_23, len_23, fa_26_6]
    exact tail _ _ _ _ _ _ _ _ _ _ _ _ _ _ _ _ _ _ _ _ _ _ _ _ _ _ _ _ _ _ _ _ _ _ _ _ _ _ _ _ _ _ _ _ _ _ _ _ _ _ _ _ _ _ _ _ _ _ _ _ _ _ _ _ _ _ _ _ _ _ _ _ _ _ _ _ _ _ _ _ _ _ _ _ _ _ _ _ _ _ _ _ _ _ _ _ _ _ _ _ _ _ _ _ _ _ _ _ _ _ _ _ _ _ _ _ _ _ _ _ _ _ _ _ _ _ _ _ _ _ _ _ _ _ _ _ _
  | succ n ih =>
    intro j hn y0 y1 y5 y6 y8 y9 y10 y11 y12 y13 y14 y15 y16 y17 y18 y19 y20 y21 y22 y23 y24 y25 y26 y27 y28 y29 y30 y31 y32 y33 y34 y35 y36 y37 y38 y39 y40 y41 y42 y43 y44 y45 y46 y47 y48 y49 y50 y51 y52 y53 y54 y55 y56 y57 y58 y59 y60 y61 y62 y63 y64 y65 y66 y67 y68 y69 y70 y71 y72 y73 y74 y75 y76 y77 y78 y79 y80 y81 y82 y83 y84 y85 y86 y87 y88 y89 y90 y91 y92 y93 y94 y95 y96 y97 y98 y99 y100 y101 y102 y103 y104 y105 y106 y107 y108 y109 y110 y111 y112 y113 y114 y115 y116 y117 y118 y119 y120 y121 y122 y141 y142 y143 y144 y145 y146 y147 y148 y149 y150 y151 y152 y153 y154 y155 y156 y157 y158
    have hja : j < a.entries.length := by omega
    have hjb : j < b.entries.length := by omega
    have hx : (j : Int) < (a.entries.length : Int) := by omega
    have hxb : (j : Int) < (b.entries.length : Int) := by omega
    have e2 : IntKind.i64.wrap ((j : Int) + 1) = ((j + 1 : Nat) : Int) := by rw [wrap64 (by omega) (by omega)]; omega
    have ih := ih (j + 1) (by omega)
    obtain ⟨ba, oa, ca, ea, hba, hra⟩ := ra.at (by omega)
    obtain ⟨bb, ob, cb, eb, hbb, hrb⟩ := rb.at (by omega)
    have eA : qa.ae = some ⟨ba, oa, none⟩ := by injection ea
    have eB : qb.ae = some ⟨bb, ob, none⟩ := by injection eb
    have e5a := (hra j hja).1
    rw [show NT.k = 4 from rfl, show NT.cs a.entries[j] = [.int .i64 a.entries[j].f, .int .u32 (a.entries[j].t : Int), .int .i64 a.entries[j].ph, .int .i64 a.entries[j].sz] from rfl] at e5a
    have e5b := (hrb j hjb).1
    rw [show NT.k = 4 from rfl, show NT.cs b.entries[j] = [.int .i64 b.entries[j].f, .int .u32 (b.entries[j].t : Int), .int .i64 b.entries[j].ph, .int .i64 b.entries[j].sz] from rfl] at e5b
    rw [List.drop_eq_getElem_cons hja, List.drop_eq_getElem_cons hjb]
    have ed : decide (a.entries[j] :: a.entries.drop (j + 1) = b.entries[j] :: b.entries.drop (j + 1)) = decide (a.entries[j] = b.entries[j] ∧ a.entries.drop (j + 1) = b.entries.drop (j + 1)) := by rw [Bool.eq_iff_iff, decide_eq_true_iff, decide_eq_true_iff, List.cons.injEq]
    rw [ed]
    clear hra hrb ed ra rb ea eb
    generalize a.entries[j] = x at e5a ⊢
    generalize b.entries[j] = y at e5b ⊢
    have hN := g.n; have hL : S.lock ≤ S.c := g.ok.1
    rw [r23_111010]
    by_cases hxy : x = y
    · subst hxy
      simp -implicitDefEqProofs (maxSteps := 1000000) (disch := (refine id ?_; first | ((fail_if_success (with_reducible apply isT_of)); (fail_if_success (first | fail)); first | omega | fail))) only [hb1, hb2, eA, eB, hx, e2, e5a, e5b, ↓bindV_some, ↓condB_true, ↓condB_false, bindV_some, ↓condK_B, bin_add, bin_lss, cell_at, cellOf_row, nth_zero, nth_succ, aggOf_some, eq_self, decide_true, and_self, true_and, Bool.not_true, Nat.zero_add, Int.toNat_natCast, reduceCtorEq, ld_23, len_23, ix_23, fa_26_6, ld_32, bsneq_32]
      exact ih _ _ _ _ _ _ _ _ _ _ _ _ _ _ _ _ _ _ _ _ _ _ _ _ _ _ _ _ _ _ _ _ _ _ _ _ _ _ _ _ _ _ _ _ _ _ _ _ _ _ _ _ _ _ _ _ _ _ _ _ _ _ _ _ _ _ _ _ _ _ _ _ _ _ _ _ _ _ _ _ _ _ _ _ _ _ _ _ _ _ _ _ _ _ _ _ _ _ _ _ _ _ _ _ _ _ _ _ _ _ _ _ _ _ _ _ _ _ _ _ _ _ _ _ _ _ _ _ _ _ _ _ _ _ _ _ _
    · have hne := hxy
      rw [en_eq] at hne
      rw [decide_eq_false (fun h => hxy h.1)]
      simp -implicitDefEqProofs (maxSteps := 1000000) (disch := (refine id ?_; first | ((fail_if_success (with_reducible apply isT_of)); (fail_if_success (first | fail)); first | omega | fail))) only [hb1, hb2, eA, eB, hx, e2, e5a, e5b, hne, k23_111010_ret, ↓bindV_some, ↓bindO_some, ↓condB_true, bindV_some, bindO_some, ↓condK_B, bin_add, bin_lss, cell_at, cellOf_row, nth_zero, nth_succ, aggOf_some, eq_self, decide_true, decide_false, Bool.not_false, Nat.zero_add, Int.toNat_natCast, Bool.false_and, ld_23, len_23, ix_23, fa_26_6, ld_32, bsneq_32]
set_option maxRecDepth 100000 in
theorem sin_loop (g : Gd W S) (a b : Cfg) (qa qb : Pl) {b1 b2 : Nat} (hb1 : S.heap b1 = .row (ccs a qa) 0) (hb2 : S.heap b2 = .row (ccs b qb) 0) (hW1 : W.heap.size ≤ b1) (hW2 : W.heap.size ≤ b2) (b3 o3 b4 o4 : Nat) (eA : qa.ad = some ⟨b3, o3, none⟩) (eB : qb.ad = some ⟨b4, o4, none⟩) (j : Nat) (hxa : (j : Int) < (a.delays.length : Int)) (hxb : (j : Int) < (b.delays.length : Int)) (hd : a.delays.length ≤ 2 ^ 60) (x y : Sv) (e5a : S.cell W ⟨b3, o3 + j, none⟩ = some (.slice x.a x.n x.c)) (e5b : S.cell W ⟨b4, o4 + j, none⟩ = some (.slice y.a y.n y.c)) (rx : Rd IT W S (.slice x.a x.n x.c) x.l) (ry : Rd IT W S (.slice y.a y.n y.c) y.l) (hl : x.l.length = y.l.length) (hlen : x.l.length ≤ 2 ^ 60) (n : Nat) : ∀ (k : Nat) (hn : n + k = x.l.length) (y0 y1 y7 y8 y9 y10 y11 y12 y13 y14 y15 y16 y17 y18 y19 y20 y21 y22 y23 y24 y25 y26 y27 y28 y29 y30 y31 y32 y33 y34 y35 y36 y37 y38 y39 y40 y41 y42 y43 y44 y45 y46 y47 y48 y49 y50 y51 y52 y53 y54 y55 y56 y57 y58 y59 y60 y61 y62 y63 y64 y65 y66 y67 y68 y69 y70 y71 y72 y73 y74 y75 y76 y77 y78 y79 y80 y81 y82 y83 y84 y85 y86 y87 y88 y89 y90 y91 y92 y93 y94 y95 y123 y124 y125 y126 y127 y128 y129 y130 y131 y132 y133 y134 y135 y136 y137 y138 y139 y140 y141 y142 y143 y144 y145 y146 y147 y148 y149 y150 y151 y152 y153 y154 y155 y156 y157 y158 : Value),
    bindO (l23_110100100110 W y0 y1 (.pointer (some ⟨b1, 0, none⟩)) (.pointer (some ⟨b2, 0, none⟩)) (.int .i64 (j : Int)) (.int .i64 (k : Int)) y7 y8 y9 y10 y11 y12 y13 y14 y15 y16 y17 y18 y19 y20 y21 y22 y23 y24 y25 y26 y27 y28 y29 y30 y31 y32 y33 y34 y35 y36 y37 y38 y39 y40 y41 y42 y43 y44 y45 y46 y47 y48 y49 y50 y51 y52 y53 y54 y55 y56 y57 y58 y59 y60 y61 y62 y63 y64 y65 y66 y67 y68 y69 y70 y71 y72 y73 y74 y75 y76 y77 y78 y79 y80 y81 y82 y83 y84 y85 y86 y87 y88 y89 y90 y91 y92 y93 y94 y95 y123 y124 y125 y126 y127 y128 y129 y130 y131 y132 y133 y134 y135 y136 y137 y138 y139 y140 y141 y142 y143 y144 y145 y146 y147 y148 y149 y150 y151 y152 y153 y154 y155 y156 y157 y158 S) (fun e A S => bindO (rk W c23_11010 [1, 0, 0, 1, 1, 0] e A S) (kc W c23 [1, 1, 0, 1, 0] f23)) = if x.l.drop k = y.l.drop k then bindO (l23_11010 W y0 y1 (.pointer (some ⟨b1, 0, none⟩)) (.pointer (some ⟨b2, 0, none⟩)) (.int .i64 ((j + 1 : Nat) : Int)) y7 y8 y9 y10 y11 y12 y13 y14 y15 y16 y17 y18 y19 y20 y21 y22 y23 y24 y25 y26 y27 y28 y29 y30 y31 y32 y33 y34 y35 y36 y37 y38 y39 y40 y41 y42 y43 y44 y45 y46 y47 y48 y49 y50 y51 y52 y53 y54 y55 y56 y57 y58 y59 y60 y61 y62 y63 y64 y65 y66 y67 y68 y69 y70 y71 y72 y73 y74 y75 y123 y124 y125 y126 y127 y128 y129 y130 y131 y132 y133 y134 y135 y136 y137 y138 y139 y140 y141 y142 y143 y144 y145 y146 y147 y148 y149 y150 y151 y152 y153 y154 y155 y156 y157 y158 S) (kc W c23 [1, 1, 0, 1, 0] f23) else some (.bool false, S) := by
  have hlt1 := row_lt g.ok hb1
  have hlt2 := row_lt g.ok hb2
  have hxn := slice_len rx
  have hyn := slice_len ry
  have e2j : IntKind.i64.wrap ((j : Int) + 1) = ((j + 1 : Nat) : Int) := by rw [wrap64 (by omega) (by omega)]; omega
  induction n with
  | zero =>
    intro k hn y0 y1 y7 y8 y9 y10 y11 y12 y13 y14 y15 y16 y17 y18 y19 y20 y21 y22 y23 y24 y25 y26 y27 y28 y29 y30 y31 y32 y33 y34 y35 y36 y37 y38 y39 y40 y41 y42 y43 y44 y45 y46 y47 y48 y49 y50 y51 y52 y53 y54 y55 y56 y57 y58 y59 y60 y61 y62 y63 y64 y65 y66 y67 y68 y69 y70 y71 y72 y73 y74 y75 y76 y77 y78 y79 y80 y81 y82 y83 y84 y85 y86 y87 y88 y89 y90 y91 y92 y93 y94 y95 y123 y124 y125 y126 y127 y128 y129 y130 y131 y132 y133 y134 y135 y136 y137 y138 y139 y140 y141 y142 y143 y144 y145 y146 y147 y148 y149 y150 y151 y152 y153 y154 y155 y156 y157 y158
    have hx : ¬ ((k : Int) < (x.n : Int)) := by omega
    rw [List.drop_eq_nil_of_le (by omega), List.drop_eq_nil_of_le (by omega), if_pos rfl]
    have hN := g.n; have hL : S.lock ≤ S.c := g.ok.1
    rw [r23_110100100110]
    simp -implicitDefEqProofs (maxSteps := 1000000) (disch := (refine id ?_; first | ((fail_if_success (with_reducible apply isT_of)); (fail_if_success (first | fail)); first | omega | fail))) only [hb1, hb2, eA, eB, e5a, e5b, hx, e2j, k23_110100100110_2, ↓bindV_some, ↓bindO_some, ↓condB_false, bindV_some, bindO_some, wrap64, ↓condK_B, bin_add, bin_lss, cell_at, cellOf_row, nth_zero, nth_succ, eq_self, decide_false, Nat.zero_add, Int.toNat_natCast, Nat.mul_one, reduceCtorEq, ld_22, ix_22, fa_26_5, ld_45, len_45]
  | succ n ih =>
    intro k hn y0 y1 y7 y8 y9 y10 y11 y12 y13 y14 y15 y16 y17 y18 y19 y20 y21 y22 y23 y24 y25 y26 y27 y28 y29 y30 y31 y32 y33 y34 y35 y36 y37 y38 y39 y40 y41 y42 y43 y44 y45 y46 y47 y48 y49 y50 y51 y52 y53 y54 y55 y56 y57 y58 y59 y60 y61 y62 y63 y64 y65 y66 y67 y68 y69 y70 y71 y72 y73 y74 y75 y76 y77 y78 y79 y80 y81 y82 y83 y84 y85 y86 y87 y88 y89 y90 y91 y92 y93 y94 y95 y123 y124 y125 y126 y127 y128 y129 y130 y131 y132 y133 y134 y135 y136 y137 y138 y139 y140 y141 y142 y143 y144 y145 y146 y147 y148 y149 y150 y151 y152 y153 y154 y155 y156 y157 y158
    have hka : k < x.l.length := by omega
    have hkb : k < y.l.length := by omega
    have hx : (k : Int) < (x.n : Int) := by omega
    have hy : (k : Int) < (y.n : Int) := by omega
    have e2 : IntKind.i64.wrap ((k : Int) + 1) = ((k + 1 : Nat) : Int) := by rw [wrap64 (by omega) (by omega)]; omega
    have ih := ih (k + 1) (by omega) y0 y1 y7 y8 y9 y10 y11 y12 y13 y14 y15 y16 y17 y18 y19 y20 y21 y22 y23 y24 y25 y26 y27 y28 y29 y30 y31 y32 y33 y34 y35 y36 y37 y38 y39 y40 y41 y42 y43 y44 y45 y46 y47 y48 y49 y50 y51 y52 y53 y54 y55 y56 y57 y58 y59 y60 y61 y62 y63 y64 y65 y66 y67 y68 y69 y70 y71 y72 y73 y74 y75 y76 y77 y78 y79 y80 y81 y82 y83 y84 y85 y86 y87 y88 y89 y90 y91 y92 y93 y94 y95 y123 y124 y125 y126 y127 y128 y129 y130 y131 y132 y133 y134 y135 y136 y137 y138 y139 y140 y141 y142 y143 y144 y145 y146 y147 y148 y149 y150 y151 y152 y153 y154 y155 y156 y157 y158
    obtain ⟨ba, oa, ca, ea, hba, hra⟩ := rx.at (by omega)
    obtain ⟨bb, ob, cb, eb, hbb, hrb⟩ := ry.at (by omega)
    have eX : x.a = some ⟨ba, oa, none⟩ := by injection ea
    have eY : y.a = some ⟨bb, ob, none⟩ := by injection eb
    have e6a := (hra k hka).2 0 (by decide)
    have e6b := (hrb k hkb).2 0 (by decide)
    rw [show IT.k = 1 from rfl, show IT.cs x.l[k] = [.int .i64 x.l[k]] from rfl, Nat.mul_one, Nat.add_zero, nth_zero] at e6a
    rw [show IT.k = 1 from rfl, show IT.cs y.l[k] = [.int .i64 y.l[k]] from rfl, Nat.mul_one, Nat.add_zero, nth_zero] at e6b
    rw [List.drop_eq_getElem_cons hka, List.drop_eq_getElem_cons hkb]
    clear hra hrb rx ry ea eb
    generalize x.l[k] = u at e6a ⊢
    generalize y.l[k] = v at e6b ⊢
    have hN := g.n; have hL : S.lock ≤ S.c := g.ok.1
    rw [r23_110100100110]
    by_cases huv : u = v
    · subst huv
      simp -implicitDefEqProofs (maxSteps := 1000000) (disch := (refine id ?_; first | ((fail_if_success (with_reducible apply isT_of)); (fail_if_success (first | fail)); first | omega | fail))) only [hb1, hb2, eA, eB, e5a, e5b, eX, eY, hx, e2, e6a, e6b, ↓bindV_some, ↓condB_true, ↓condB_false, bindV_some, ↓condK_B, bin_add, bin_lss, bin_neq, cell_at, cellOf_row, nth_zero, nth_succ, eq_self, decide_true, Bool.not_true, Nat.zero_add, Int.toNat_natCast, Nat.mul_one, reduceCtorEq, ld_2, ld_22, ix_22, fa_26_5, ld_45, len_45, ix_45]
      rw [ih]
      by_cases ht : x.l.drop (k + 1) = y.l.drop (k + 1)
      · rw [if_pos ht, if_pos (by rw [ht])]
      · rw [if_neg ht, if_neg (fun h => ht (List.cons.inj h).2)]
    · rw [if_neg (fun h => huv (List.cons.inj h).1)]
      simp -implicitDefEqProofs (maxSteps := 1000000) (disch := (refine id ?_; first | ((fail_if_success (with_reducible apply isT_of)); (fail_if_success (first | fail)); first | omega | fail))) only [hb1, hb2, eA, eB, e5a, e5b, eX, eY, hx, huv, e6a, e6b, k23_110100100110_ret, k23_11010_ret, ↓bindV_some, ↓bindO_some, ↓condB_true, bindV_some, bindO_some, wrap64, ↓condK_B, bin_add, bin_lss, bin_neq, cell_at, cellOf_row, nth_zero, nth_succ, eq_self, decide_true, decide_false, Bool.not_false, Nat.zero_add, Int.toNat_natCast, Nat.mul_one, ld_2, ld_22, ix_22, fa_26_5, ld_45, len_45, ix_45]
set_option maxRecDepth 100000 in
theorem sout_round (g : Gd W S) (a b : Cfg) (qa qb : Pl) {b1 b2 : Nat} (hb1 : S.heap b1 = .row (ccs a qa) 0) (hb2 : S.heap b2 = .row (ccs b qb) 0) (hW1 : W.heap.size ≤ b1) (hW2 : W.heap.size ≤ b2) (b3 o3 b4 o4 : Nat) (eA : qa.ad = some ⟨b3, o3, none⟩) (eB : qb.ad = some ⟨b4, o4, none⟩) (j : Nat) (hxa : (j : Int) < (a.delays.length : Int)) (hxb : (j : Int) < (b.delays.length : Int)) (hd : a.delays.length ≤ 2 ^ 60) (x y : Sv) (e5a : S.cell W ⟨b3, o3 + j, none⟩ = some (.slice x.a x.n x.c)) (e5b : S.cell W ⟨b4, o4 + j, none⟩ = some (.slice y.a y.n y.c)) (rx : Rd IT W S (.slice x.a x.n x.c) x.l) (ry : Rd IT W S (.slice y.a y.n y.c) y.l) (hlen : x.l.length ≤ 2 ^ 60) (y0 y1 y7 y8 y9 y10 y11 y12 y13 y14 y15 y16 y17 y18 y19 y20 y21 y22 y23 y24 y25 y26 y27 y28 y29 y30 y31 y32 y33 y34 y35 y36 y37 y38 y39 y40 y41 y42 y43 y44 y45 y46 y47 y48 y49 y50 y51 y52 y53 y54 y55 y56 y57 y58 y59 y60 y61 y62 y63 y64 y65 y66 y67 y68 y69 y70 y71 y72 y73 y74 y75 y123 y124 y125 y126 y127 y128 y129 y130 y131 y132 y133 y134 y135 y136 y137 y138 y139 y140 y141 y142 y143 y144 y145 y146 y147 y148 y149 y150 y151 y152 y153 y154 y155 y156 y157 y158 : Value) :
    bindO (l23_11010 W y0 y1 (.pointer (some ⟨b1, 0, none⟩)) (.pointer (some ⟨b2, 0, none⟩)) (.int .i64 (j : Int)) y7 y8 y9 y10 y11 y12 y13 y14 y15 y16 y17 y18 y19 y20 y21 y22 y23 y24 y25 y26 y27 y28 y29 y30 y31 y32 y33 y34 y35 y36 y37 y38 y39 y40 y41 y42 y43 y44 y45 y46 y47 y48 y49 y50 y51 y52 y53 y54 y55 y56 y57 y58 y59 y60 y61 y62 y63 y64 y65 y66 y67 y68 y69 y70 y71 y72 y73 y74 y75 y123 y124 y125 y126 y127 y128 y129 y130 y131 y132 y133 y134 y135 y136 y137 y138 y139 y140 y141 y142 y143 y144 y145 y146 y147 y148 y149 y150 y151 y152 y153 y154 y155 y156 y157 y158 S) (kc W c23 [1, 1, 0, 1, 0] f23) = if x.l = y.l then bindO (l23_11010 W y0 y1 (.pointer (some ⟨b1, 0, none⟩)) (.pointer (some ⟨b2, 0, none⟩)) (.int .i64 ((j + 1 : Nat) : Int)) y7 y8 y9 y10 y11 y12 y13 y14 y15 y16 y17 y18 y19 y20 y21 y22 y23 y24 y25 y26 y27 y28 y29 y30 y31 y32 y33 y34 y35 y36 y37 y38 y39 y40 y41 y42 y43 y44 y45 y46 y47 y48 y49 y50 y51 y52 y53 y54 y55 y56 y57 y58 y59 y60 y61 y62 y63 y64 y65 y66 y67 y68 y69 y70 y71 y72 y73 y74 y75 y123 y124 y125 y126 y127 y128 y129 y130 y131 y132 y133 y134 y135 y136 y137 y138 y139 y140 y141 y142 y143 y144 y145 y146 y147 y148 y149 y150 y151 y152 y153 y154 y155 y156 y157 y158 S) (kc W c23 [1, 1, 0, 1, 0] f23) else some (.bool false, S) := by
  have hlt1 := row_lt g.ok hb1
  have hlt2 := row_lt g.ok hb2
  have hxn := slice_len rx
  have hyn := slice_len ry
  have hN := g.n; have hL : S.lock ≤ S.c := g.ok.1
  rw [r23_11010]
  by_cases hl : x.l.length = y.l.length
  · have hl' : ((x.n : Int) = (y.n : Int)) = True := eq_true (by omega)
    have si := sin_loop g a b qa qb hb1 hb2 hW1 hW2 b3 o3 b4 o4 eA eB j hxa hxb hd x y e5a e5b rx ry hl hlen x.l.length 0 rfl
    rw [cast0] at si
    rw [List.drop_zero, List.drop_zero] at si
    simp -implicitDefEqProofs (maxSteps := 1000000) (disch := (refine id ?_; first | ((fail_if_success (with_reducible apply isT_of)); (fail_if_success (first | fail)); first | omega | fail))) only [hb1, hb2, eA, eB, e5a, e5b, hl', hxa, ↓bindV_some, ↓condB_true, ↓condB_false, bindV_some, ↓condK_B, bin_lss, bin_neq, cell_at, cellOf_row, nth_zero, nth_succ, eq_self, bindO_bindO, decide_true, Bool.not_true, Nat.zero_add, Int.toNat_natCast, Nat.mul_one, reduceCtorEq, ld_22, len_22, ix_22, fa_26_5, ld_45, len_45]
    exact si _ _ _ _ _ _ _ _ _ _ _ _ _ _ _ _ _ _ _ _ _ _ _ _ _ _ _ _ _ _ _ _ _ _ _ _ _ _ _ _ _ _ _ _ _ _ _ _ _ _ _ _ _ _ _ _ _ _ _ _ _ _ _ _ _ _ _ _ _ _ _ _ _ _ _ _ _ _ _ _ _ _ _ _ _ _ _ _ _ _ _ _ _ _ _ _ _ _ _ _ _ _ _ _ _ _ _ _ _ _ _ _ _ _ _ _ _ _ _ _ _ _ _ _ _ _ _
  · have hl' : ¬ ((x.n : Int) = (y.n : Int)) := by omega
    rw [if_neg (fun h => hl (congrArg List.length h))]
    simp -implicitDefEqProofs (maxSteps := 1000000) (disch := (refine id ?_; first | ((fail_if_success (with_reducible apply isT_of)); (fail_if_success (first | fail)); first | omega | fail))) only [hb1, hb2, eA, eB, e5a, e5b, hl', hxa, k23_11010_ret, ↓bindV_some, ↓bindO_some, ↓condB_true, bindV_some, bindO_some, ↓condK_B, bin_lss, bin_neq, cell_at, cellOf_row, nth_zero, nth_succ, eq_self, decide_true, decide_false, Bool.not_false, Nat.zero_add, Int.toNat_natCast, Nat.mul_one, ld_22, len_22, ix_22, fa_26_5, ld_45, len_45]
set_option maxRecDepth 100000 in
theorem sout_end (g : Gd W S) (a b : Cfg) (qa qb : Pl) {b1 b2 : Nat} (hb1 : S.heap b1 = .row (ccs a qa) 0) (hb2 : S.heap b2 = .row (ccs b qb) 0) (hW1 : W.heap.size ≤ b1) (hW2 : W.heap.size ≤ b2) (tail : ∀ y0 y1 y5 y6 y8 y9 y10 y11 y12 y13 y14 y15 y16 y17 y18 y19 y20 y21 y22 y23 y24 y25 y26 y27 y28 y29 y30 y31 y32 y33 y34 y35 y36 y37 y38 y39 y40 y41 y42 y43 y44 y45 y46 y47 y48 y49 y50 y51 y52 y53 y54 y55 y56 y57 y58 y59 y60 y61 y62 y63 y64 y65 y66 y67 y68 y69 y70 y71 y72 y73 y74 y75 y76 y77 y78 y79 y80 y81 y82 y83 y84 y85 y86 y87 y88 y89 y90 y91 y92 y93 y94 y95 y96 y97 y98 y99 y100 y101 y102 y103 y104 y105 y106 y107 y108 y109 y110 y111 y112 y113 y114 y115 y116 y117 y118 y119 y120 y121 y122 y141 y142 y143 y144 y145 y146 y147 y148 y149 y150 y151 y152 y153 y154 y155 y156 y157 y158 : Value, bindO (l23_111010 W y0 y1 (.pointer (some ⟨b1, 0, none⟩)) (.pointer (some ⟨b2, 0, none⟩)) y5 y6 (.int .i64 0) y8 y9 y10 y11 y12 y13 y14 y15 y16 y17 y18 y19 y20 y21 y22 y23 y24 y25 y26 y27 y28 y29 y30 y31 y32 y33 y34 y35 y36 y37 y38 y39 y40 y41 y42 y43 y44 y45 y46 y47 y48 y49 y50 y51 y52 y53 y54 y55 y56 y57 y58 y59 y60 y61 y62 y63 y64 y65 y66 y67 y68 y69 y70 y71 y72 y73 y74 y75 y76 y77 y78 y79 y80 y81 y82 y83 y84 y85 y86 y87 y88 y89 y90 y91 y92 y93 y94 y95 y96 y97 y98 y99 y100 y101 y102 y103 y104 y105 y106 y107 y108 y109 y110 y111 y112 y113 y114 y115 y116 y117 y118 y119 y120 y121 y122 y141 y142 y143 y144 y145 y146 y147 y148 y149 y150 y151 y152 y153 y154 y155 y156 y157 y158 S) (kc W c23 [1, 1, 1, 0, 1, 0] f23) = some (.bool (decide (a.entries = b.entries) && decide (a.links = b.links)), S)) (j : Nat) (hxa : ¬ (j : Int) < (a.delays.length : Int)) (y0 y1 y7 y8 y9 y10 y11 y12 y13 y14 y15 y16 y17 y18 y19 y20 y21 y22 y23 y24 y25 y26 y27 y28 y29 y30 y31 y32 y33 y34 y35 y36 y37 y38 y39 y40 y41 y42 y43 y44 y45 y46 y47 y48 y49 y50 y51 y52 y53 y54 y55 y56 y57 y58 y59 y60 y61 y62 y63 y64 y65 y66 y67 y68 y69 y70 y71 y72 y73 y74 y75 y123 y124 y125 y126 y127 y128 y129 y130 y131 y132 y133 y134 y135 y136 y137 y138 y139 y140 y141 y142 y143 y144 y145 y146 y147 y148 y149 y150 y151 y152 y153 y154 y155 y156 y157 y158 : Value) :
    bindO (l23_11010 W y0 y1 (.pointer (some ⟨b1, 0, none⟩)) (.pointer (some ⟨b2, 0, none⟩)) (.int .i64 (j : Int)) y7 y8 y9 y10 y11 y12 y13 y14 y15 y16 y17 y18 y19 y20 y21 y22 y23 y24 y25 y26 y27 y28 y29 y30 y31 y32 y33 y34 y35 y36 y37 y38 y39 y40 y41 y42 y43 y44 y45 y46 y47 y48 y49 y50 y51 y52 y53 y54 y55 y56 y57 y58 y59 y60 y61 y62 y63 y64 y65 y66 y67 y68 y69 y70 y71 y72 y73 y74 y75 y123 y124 y125 y126 y127 y128 y129 y130 y131 y132 y133 y134 y135 y136 y137 y138 y139 y140 y141 y142 y143 y144 y145 y146 y147 y148 y149 y150 y151 y152 y153 y154 y155 y156 y157 y158 S) (kc W c23 [1, 1, 0, 1, 0] f23) = some (.bool (decide (a.entries = b.entries) && decide (a.links = b.links)), S) := by
  have hlt1 := row_lt g.ok hb1
  have hlt2 := row_lt g.ok hb2
  have hN := g.n; have hL : S.lock ≤ S.c := g.ok.1
  rw [r23_11010]
  simp -implicitDefEqProofs (maxSteps := 1000000) (disch := (refine id ?_; first | ((fail_if_success (with_reducible apply isT_of)); (fail_if_success (first | fail)); first | omega | fail))) only [hb1, hb2, hxa, k23_11010_0, ↓bindV_some, ↓bindO_some, ↓condB_false, bindV_some, bindO_some, ↓condK_B, bin_lss, cell_at, cellOf_row, nth_zero, nth_succ, decide_false, Nat.zero_add, reduceCtorEq, ld_22, len_22, fa_26_5]
  exact tail _ _ _ _ _ _ _ _ _ _ _ _ _ _ _ _ _ _ _ _ _ _ _ _ _ _ _ _ _ _ _ _ _ _ _ _ _ _ _ _ _ _ _ _ _ _ _ _ _ _ _ _ _ _ _ _ _ _ _ _ _ _ _ _ _ _ _ _ _ _ _ _ _ _ _ _ _ _ _ _ _ _ _ _ _ _ _ _ _ _ _ _ _ _ _ _ _ _ _ _ _ _ _ _ _ _ _ _ _ _ _ _ _ _ _ _ _ _ _ _ _ _ _ _ _ _ _ _ _ _ _ _ _ _ _ _ _
set_option maxRecDepth 100000 in
theorem sout_loop (g : Gd W S) (a b : Cfg) (qa qb : Pl) {b1 b2 : Nat} (hb1 : S.heap b1 = .row (ccs a qa) 0) (hb2 : S.heap b2 = .row (ccs b qb) 0) (hW1 : W.heap.size ≤ b1) (hW2 : W.heap.size ≤ b2) (tail : ∀ y0 y1 y5 y6 y8 y9 y10 y11 y12 y13 y14 y15 y16 y17 y18 y19 y20 y21 y22 y23 y24 y25 y26 y27 y28 y29 y30 y31 y32 y33 y34 y35 y36 y37 y38 y39 y40 y41 y42 y43 y44 y45 y46 y47 y48 y49 y50 y51 y52 y53 y54 y55 y56 y57 y58 y59 y60 y61 y62 y63 y64 y65 y66 y67 y68 y69 y70 y71 y72 y73 y74 y75 y76 y77 y78 y79 y80 y81 y82 y83 y84 y85 y86 y87 y88 y89 y90 y91 y92 y93 y94 y95 y96 y97 y98 y99 y100 y101 y102 y103 y104 y105 y106 y107 y108 y109 y110 y111 y112 y113 y114 y115 y116 y117 y118 y119 y120 y121 y122 y141 y142 y143 y144 y145 y146 y147 y148 y149 y150 y151 y152 y153 y154 y155 y156 y157 y158 : Value, bindO (l23_111010 W y0 y1 (.pointer (some ⟨b1, 0, none⟩)) (.pointer (some ⟨b2, 0, none⟩)) y5 y6 (.int .i64 0) y8 y9 y10 y11 y12 y13 y14 y15 y16 y17 y18 y19 y20 y21 y22 y23 y24 y25 y26 y27 y28 y29 y30 y31 y32 y33 y34 y35 y36 y37 y38 y39 y40 y41 y42 y43 y44 y45 y46 y47 y48 y49 y50 y51 y52 y53 y54 y55 y56 y57 y58 y59 y60 y61 y62 y63 y64 y65 y66 y67 y68 y69 y70 y71 y72 y73 y74 y75 y76 y77 y78 y79 y80 y81 y82 y83 y84 y85 y86 y87 y88 y89 y90 y91 y92 y93 y94 y95 y96 y97 y98 y99 y100 y101 y102 y103 y104 y105 y106 y107 y108 y109 y110 y111 y112 y113 y114 y115 y116 y117 y118 y119 y120 y121 y122 y141 y142 y143 y144 y145 y146 y147 y148 y149 y150 y151 y152 y153 y154 y155 y156 y157 y158 S) (kc W c23 [1, 1, 1, 0, 1, 0] f23) = some (.bool (decide (a.entries = b.entries) && decide (a.links = b.links)), S)) (sa sb : List Sv) (hla : sa.length = a.delays.length) (hlb : sb.length = b.delays.length) (hl : a.delays.length = b.delays.length) (hd : a.delays.length ≤ 2 ^ 60) (ra : Rd VT W S (.slice qa.ad a.delays.length qa.cd) sa) (rb : Rd VT W S (.slice qb.ad b.delays.length qb.cd) sb) (h3a : ∀ s ∈ sa, Rd IT W S (.slice s.a s.n s.c) s.l ∧ s.l.length ≤ 2 ^ 60) (h3b : ∀ s ∈ sb, Rd IT W S (.slice s.a s.n s.c) s.l) (n : Nat) : ∀ (j : Nat) (hn : n + j = a.delays.length) (y0 y1 y7 y8 y9 y10 y11 y12 y13 y14 y15 y16 y17 y18 y19 y20 y21 y22 y23 y24 y25 y26 y27 y28 y29 y30 y31 y32 y33 y34 y35 y36 y37 y38 y39 y40 y41 y42 y43 y44 y45 y46 y47 y48 y49 y50 y51 y52 y53 y54 y55 y56 y57 y58 y59 y60 y61 y62 y63 y64 y65 y66 y67 y68 y69 y70 y71 y72 y73 y74 y75 y123 y124 y125 y126 y127 y128 y129 y130 y131 y132 y133 y134 y135 y136 y137 y138 y139 y140 y141 y142 y143 y144 y145 y146 y147 y148 y149 y150 y151 y152 y153 y154 y155 y156 y157 y158 : Value),
    bindO (l23_11010 W y0 y1 (.pointer (some ⟨b1, 0, none⟩)) (.pointer (some ⟨b2, 0, none⟩)) (.int .i64 (j : Int)) y7 y8 y9 y10 y11 y12 y13 y14 y15 y16 y17 y18 y19 y20 y21 y22 y23 y24 y25 y26 y27 y28 y29 y30 y31 y32 y33 y34 y35 y36 y37 y38 y39 y40 y41 y42 y43 y44 y45 y46 y47 y48 y49 y50 y51 y52 y53 y54 y55 y56 y57 y58 y59 y60 y61 y62 y63 y64 y65 y66 y67 y68 y69 y70 y71 y72 y73 y74 y75 y123 y124 y125 y126 y127 y128 y129 y130 y131 y132 y133 y134 y135 y136 y137 y138 y139 y140 y141 y142 y143 y144 y145 y146 y147 y148 y149 y150 y151 y152 y153 y154 y155 y156 y157 y158 S) (kc W c23 [1, 1, 0, 1, 0] f23) = some (.bool (decide ((sa.drop j).map (·.l) = (sb.drop j).map (·.l)) && (decide (a.entries = b.entries) && decide (a.links = b.links))), S) := by
  induction n with
  | zero =>
    intro j hn y0 y1 y7 y8 y9 y10 y11 y12 y13 y14 y15 y16 y17 y18 y19 y20 y21 y22 y23 y24 y25 y26 y27 y28 y29 y30 y31 y32 y33 y34 y35 y36 y37 y38 y39 y40 y41 y42 y43 y44 y45 y46 y47 y48 y49 y50 y51 y52 y53 y54 y55 y56 y57 y58 y59 y60 y61 y62 y63 y64 y65 y66 y67 y68 y69 y70 y71 y72 y73 y74 y75 y123 y124 y125 y126 y127 y128 y129 y130 y131 y132 y133 y134 y135 y136 y137 y138 y139 y140 y141 y142 y143 y144 y145 y146 y147 y148 y149 y150 y151 y152 y153 y154 y155 y156 y157 y158
    rw [sout_end g a b qa qb hb1 hb2 hW1 hW2 tail j (by omega), List.drop_eq_nil_of_le (by omega), List.drop_eq_nil_of_le (by omega)]
    rfl
  | succ n ih =>
    intro j hn y0 y1 y7 y8 y9 y10 y11 y12 y13 y14 y15 y16 y17 y18 y19 y20 y21 y22 y23 y24 y25 y26 y27 y28 y29 y30 y31 y32 y33 y34 y35 y36 y37 y38 y39 y40 y41 y42 y43 y44 y45 y46 y47 y48 y49 y50 y51 y52 y53 y54 y55 y56 y57 y58 y59 y60 y61 y62 y63 y64 y65 y66 y67 y68 y69 y70 y71 y72 y73 y74 y75 y123 y124 y125 y126 y127 y128 y129 y130 y131 y132 y133 y134 y135 y136 y137 y138 y139 y140 y141 y142 y143 y144 y145 y146 y147 y148 y149 y150 y151 y152 y153 y154 y155 y156 y157 y158
    have hja : j < sa.length := by omega
    have hjb : j < sb.length := by omega
    have ih := ih (j + 1) (by omega)
    obtain ⟨b3, o3, ca, ea, hba, hra⟩ := ra.at (by omega)
    obtain ⟨b4, o4, cb, eb, hbb, hrb⟩ := rb.at (by omega)
    have eA : qa.ad = some ⟨b3, o3, none⟩ := by injection ea
    have eB : qb.ad = some ⟨b4, o4, none⟩ := by injection eb
    have e5a := (hra j hja).2 0 (by decide)
    have e5b := (hrb j hjb).2 0 (by decide)
    rw [show VT.k = 1 from rfl, show VT.cs sa[j] = [.slice sa[j].a sa[j].n sa[j].c] from rfl, Nat.mul_one, Nat.add_zero, nth_zero] at e5a
    rw [show VT.k = 1 from rfl, show VT.cs sb[j] = [.slice sb[j].a sb[j].n sb[j].c] from rfl, Nat.mul_one, Nat.add_zero, nth_zero] at e5b
    have f3a := h3a sa[j] (List.getElem_mem hja)
    have f3b := h3b sb[j] (List.getElem_mem hjb)
    rw [sout_round g a b qa qb hb1 hb2 hW1 hW2 b3 o3 b4 o4 eA eB j (by omega) (by omega) hd sa[j] sb[j] e5a e5b f3a.1 f3b f3a.2, ih, List.drop_eq_getElem_cons hja, List.drop_eq_getElem_cons hjb, List.map_cons, List.map_cons]
    by_cases hxy : sa[j].l = sb[j].l
    · rw [if_pos hxy]
      refine congrArg (fun b => some (Value.bool b, S)) (congrArg (fun b => b && _) ?_)
      rw [Bool.eq_iff_iff, decide_eq_true_iff, decide_eq_true_iff, List.cons.injEq]
      exact ⟨fun h => ⟨hxy, h⟩, fun h => h.2⟩
    · rw [if_neg hxy, decide_eq_false (fun h => hxy (List.cons.inj h).1)]
      rfl
end
end Go.Proofs.Ytogcdgdnjinjkaa.F
end
