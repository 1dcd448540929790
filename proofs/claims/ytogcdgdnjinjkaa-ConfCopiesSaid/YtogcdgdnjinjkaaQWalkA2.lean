/- What the functions of this chapter compute, in memories that are closed; conditions stand in each theorem. Laid together by a program for this claim. -/
import Derived.OpenShut
import Derived.Test.YtogcdgdnjinjkaaQWalkA1
import Derived.Test.YtogcdgdnjinjkaaQEngine1
set_option linter.unusedVariables false
set_option linter.unusedSimpArgs false
section
namespace Go.Proofs.Ytogcdgdnjinjkaa.F
open Go Go.Proofs.Ytogcdgdnjinjkaa.E
set_option linter.unusedVariables false
set_option linter.unusedSimpArgs false
section
variable {W : World} {S : St}
set_option maxRecDepth 100000 in
set_option maxHeartbeats 1000000 in
theorem RSame_eq (g : Gd W S) (a b : Cfg) (qa qb : Pl) (h : CfgAt W S a qa) (k : CfgAt W S b qb) : cw W 23 #[cvl a qa, cvl b qb] S = some (.bool (sameC a b), S) := by
  rw [eq23]
  have hN := g.n; have hL : S.lock ≤ S.c := g.ok.1
  have hqa := h.vlt
  have hqb := k.vlt
  have g1 := g.new (o := .row (ccs a qa) 0) (objLt_mono (Nat.le_succ _) (cvl_obj hqa))
  have g2 := g1.new (o := .row (ccs b qb) 0) (objLt_mono (Nat.le_succ _) (cvl_obj (vlt_mono (Nat.le_succ _) hqb)))
  have lw : Low S ((S.new (.row (ccs a qa) 0)).new (.row (ccs b qb) 0)) := Low.new (Low.new (Low.rfl' S) _) _
  have ha : [cvl a qa, cvl b qb].all (vlt S.c) = true := by rw [List.all_cons, hqa, List.all_cons, hqb]; rfl
  have h2 := h.low lw
  have k2 := k.low lw
  have hb1 : ((S.new (.row (ccs a qa) 0)).new (.row (ccs b qb) 0)).heap S.c = .row (ccs a qa) 0 := by rw [new_lo _ (by simp only [new_c]; omega)]; exact new_self _
  obtain ⟨sa, a1, a2, a3⟩ := h2.del
  obtain ⟨sb, c1, c2, c3⟩ := k2.del
  by_cases hall : a.hosts = b.hosts ∧ a.cycle = b.cycle ∧ a.delay = b.delay ∧ a.window = b.window ∧ a.prec = b.prec ∧ a.queue = b.queue ∧ (a.delays.length : Int) = b.delays.length ∧ (a.entries.length : Int) = b.entries.length ∧ (a.links.length : Int) = b.links.length
  · obtain ⟨z1, z2, z3, z4, z5, z6, z7, z8, z9⟩ := hall
    have hsa : sa.length = a.delays.length := by rw [← a2, List.length_map]
    have hsb : sb.length = b.delays.length := by rw [← c2, List.length_map]
    have t1 := fun y0 y1 y5 y6 y7 y9 y10 y11 y12 y13 y14 y15 y16 y17 y18 y19 y20 y21 y22 y23 y24 y25 y26 y27 y28 y29 y30 y31 y32 y33 y34 y35 y36 y37 y38 y39 y40 y41 y42 y43 y44 y45 y46 y47 y48 y49 y50 y51 y52 y53 y54 y55 y56 y57 y58 y59 y60 y61 y62 y63 y64 y65 y66 y67 y68 y69 y70 y71 y72 y73 y74 y75 y76 y77 y78 y79 y80 y81 y82 y83 y84 y85 y86 y87 y88 y89 y90 y91 y92 y93 y94 y95 y96 y97 y98 y99 y100 y101 y102 y103 y104 y105 y106 y107 y108 y109 y110 y111 y112 y113 y114 y115 y116 y117 y118 y119 y120 y121 y122 y123 y124 y125 y126 y127 y128 y129 y130 y131 y132 y133 y134 y135 y136 y137 y138 y139 y140 => slinks_loop g2 a b qa qb hb1 (b2 := S.c + 1) (new_self _) hN (by omega) (by omega) h.ll h2.lnk k2.lnk a.links.length 0 rfl y0 y1 y5 y6 y7 y9 y10 y11 y12 y13 y14 y15 y16 y17 y18 y19 y20 y21 y22 y23 y24 y25 y26 y27 y28 y29 y30 y31 y32 y33 y34 y35 y36 y37 y38 y39 y40 y41 y42 y43 y44 y45 y46 y47 y48 y49 y50 y51 y52 y53 y54 y55 y56 y57 y58 y59 y60 y61 y62 y63 y64 y65 y66 y67 y68 y69 y70 y71 y72 y73 y74 y75 y76 y77 y78 y79 y80 y81 y82 y83 y84 y85 y86 y87 y88 y89 y90 y91 y92 y93 y94 y95 y96 y97 y98 y99 y100 y101 y102 y103 y104 y105 y106 y107 y108 y109 y110 y111 y112 y113 y114 y115 y116 y117 y118 y119 y120 y121 y122 y123 y124 y125 y126 y127 y128 y129 y130 y131 y132 y133 y134 y135 y136 y137 y138 y139 y140
    rw [cast0, List.drop_zero, List.drop_zero] at t1
    have t2 := fun y0 y1 y5 y6 y8 y9 y10 y11 y12 y13 y14 y15 y16 y17 y18 y19 y20 y21 y22 y23 y24 y25 y26 y27 y28 y29 y30 y31 y32 y33 y34 y35 y36 y37 y38 y39 y40 y41 y42 y43 y44 y45 y46 y47 y48 y49 y50 y51 y52 y53 y54 y55 y56 y57 y58 y59 y60 y61 y62 y63 y64 y65 y66 y67 y68 y69 y70 y71 y72 y73 y74 y75 y76 y77 y78 y79 y80 y81 y82 y83 y84 y85 y86 y87 y88 y89 y90 y91 y92 y93 y94 y95 y96 y97 y98 y99 y100 y101 y102 y103 y104 y105 y106 y107 y108 y109 y110 y111 y112 y113 y114 y115 y116 y117 y118 y119 y120 y121 y122 y141 y142 y143 y144 y145 y146 y147 y148 y149 y150 y151 y152 y153 y154 y155 y156 y157 y158 => sentries_loop g2 a b qa qb hb1 (b2 := S.c + 1) (new_self _) hN (by omega) t1 (by omega) h.le h2.ent k2.ent a.entries.length 0 rfl y0 y1 y5 y6 y8 y9 y10 y11 y12 y13 y14 y15 y16 y17 y18 y19 y20 y21 y22 y23 y24 y25 y26 y27 y28 y29 y30 y31 y32 y33 y34 y35 y36 y37 y38 y39 y40 y41 y42 y43 y44 y45 y46 y47 y48 y49 y50 y51 y52 y53 y54 y55 y56 y57 y58 y59 y60 y61 y62 y63 y64 y65 y66 y67 y68 y69 y70 y71 y72 y73 y74 y75 y76 y77 y78 y79 y80 y81 y82 y83 y84 y85 y86 y87 y88 y89 y90 y91 y92 y93 y94 y95 y96 y97 y98 y99 y100 y101 y102 y103 y104 y105 y106 y107 y108 y109 y110 y111 y112 y113 y114 y115 y116 y117 y118 y119 y120 y121 y122 y141 y142 y143 y144 y145 y146 y147 y148 y149 y150 y151 y152 y153 y154 y155 y156 y157 y158
    rw [cast0, List.drop_zero, List.drop_zero] at t2
    have t3 := fun y0 y1 y7 y8 y9 y10 y11 y12 y13 y14 y15 y16 y17 y18 y19 y20 y21 y22 y23 y24 y25 y26 y27 y28 y29 y30 y31 y32 y33 y34 y35 y36 y37 y38 y39 y40 y41 y42 y43 y44 y45 y46 y47 y48 y49 y50 y51 y52 y53 y54 y55 y56 y57 y58 y59 y60 y61 y62 y63 y64 y65 y66 y67 y68 y69 y70 y71 y72 y73 y74 y75 y123 y124 y125 y126 y127 y128 y129 y130 y131 y132 y133 y134 y135 y136 y137 y138 y139 y140 y141 y142 y143 y144 y145 y146 y147 y148 y149 y150 y151 y152 y153 y154 y155 y156 y157 y158 => sout_loop g2 a b qa qb hb1 (b2 := S.c + 1) (new_self _) hN (by omega) t2 sa sb hsa hsb (by omega) h.ld a1 c1 (fun s hs => ⟨a3 s hs, h.ldd _ (by rw [← a2]; exact List.mem_map_of_mem hs)⟩) c3 a.delays.length 0 rfl y0 y1 y7 y8 y9 y10 y11 y12 y13 y14 y15 y16 y17 y18 y19 y20 y21 y22 y23 y24 y25 y26 y27 y28 y29 y30 y31 y32 y33 y34 y35 y36 y37 y38 y39 y40 y41 y42 y43 y44 y45 y46 y47 y48 y49 y50 y51 y52 y53 y54 y55 y56 y57 y58 y59 y60 y61 y62 y63 y64 y65 y66 y67 y68 y69 y70 y71 y72 y73 y74 y75 y123 y124 y125 y126 y127 y128 y129 y130 y131 y132 y133 y134 y135 y136 y137 y138 y139 y140 y141 y142 y143 y144 y145 y146 y147 y148 y149 y150 y151 y152 y153 y154 y155 y156 y157 y158
    rw [cast0, List.drop_zero, List.drop_zero, a2, c2] at t3
    have y1 := eq_true z1
    have y2 := eq_true z2
    have y3 := eq_true z3
    have y4 := eq_true z4
    have y5 := eq_true z5
    have y6 := eq_true z6
    have y7 := eq_true z7
    have y8 := eq_true z8
    have y9 := eq_true z9
    have er : sameC a b = (decide (a.delays = b.delays) && (decide (a.entries = b.entries) && decide (a.links = b.links))) := by
      unfold sameC
      rw [decide_eq_true z1, decide_eq_true z2, decide_eq_true z3, decide_eq_true z4, decide_eq_true z5, decide_eq_true z6]
      simp only [Bool.true_and, Bool.and_assoc]
    rw [er]
    simp -implicitDefEqProofs (maxSteps := 1000000) (disch := (refine id ?_; first | with_reducible assumption | (with_reducible refine IsT.left ?_; with_reducible assumption) | (with_reducible refine IsT.left (IsT.left ?_); with_reducible assumption) | ((first | with_reducible refine nat_lt_id ?_ | with_reducible refine nat_le_id ?_ | with_reducible refine nat_ne_id ?_); (first | (simp +arith only [new_c, new_lock, upd_c, upd_lock, relock_c, relock_lock]; done) | (simp only [new_c, new_lock, upd_c, upd_lock, relock_c, relock_lock]; with_reducible assumption) | (refine Nat.le_trans hN ?_; simp +arith only [new_c, new_lock, upd_c, upd_lock, relock_c, relock_lock]; done) | (refine Nat.le_trans hL ?_; simp +arith only [new_c, new_lock, upd_c, upd_lock, relock_c, relock_lock]; done) | (apply Nat.lt_of_lt_of_le; with_reducible assumption; simp +arith only [new_c, new_lock, upd_c, upd_lock, relock_c, relock_lock]; done) | (apply Nat.ne_of_lt; apply Nat.lt_of_lt_of_le; with_reducible assumption; simp +arith only [new_c, new_lock, upd_c, upd_lock, relock_c, relock_lock]; done) | fail)) | ((fail_if_success (with_reducible apply isT_of)); (fail_if_success (first | with_reducible refine nat_lt_id ?_ | with_reducible refine nat_le_id ?_ | with_reducible refine nat_ne_id ?_)); first | (simp +arith only [new_c, new_lock, upd_c, upd_lock, relock_c, relock_lock]; done) | (refine Nat.le_trans hN ?_; simp +arith only [new_c, new_lock, upd_c, upd_lock, relock_c, relock_lock]; done) | (refine Nat.le_trans hL ?_; simp +arith only [new_c, new_lock, upd_c, upd_lock, relock_c, relock_lock]; done) | omega | (with_reducible apply Gd.cl; with_reducible assumption) | (simp only [new_c, new_lock, upd_c, upd_lock, relock_c, relock_lock] <;> omega) | with_reducible exact Low.rfl' _ | (with_reducible refine Low.new ?_ _; (repeat (first | with_reducible exact Low.rfl' _ | with_reducible assumption | refine Low.new ?_ _ | refine Low.upd ?_ (by (first | omega | (simp only [new_c, upd_c, relock_c] <;> omega))) _)); done) | (with_reducible refine Low.upd ?_ (by (first | omega | (simp only [new_c, upd_c, relock_c] <;> omega))) _; (repeat (first | with_reducible exact Low.rfl' _ | with_reducible assumption | refine Low.new ?_ _ | refine Low.upd ?_ (by (first | omega | (simp only [new_c, upd_c, relock_c] <;> omega))) _)); done) | (with_reducible refine Gd.new ?_ (by (simp only [objLt_row, objLt_dead, List.all_cons, List.all_nil, vlt1_int, vlt1_bool, vlt1_string, vlt1_nilp, vlt1_nils, vlt1_ptr, vlt1_sl, vlt1_func, vlt0_ptr, vlt0_sl, vlt0_int, vlt0_bool, vlt0_string, vlt0_nilp, vlt0_nils, vlt_int, vlt_bool, vlt_string, vlt_nilp, vlt_nils, vlt_ptr, vlt_sl, vlt_agg, vlt_func, List.toArray, Bool.and_true, Bool.true_and, Bool.and_self, Bool.and_eq_true, decide_eq_true_eq, and_true, true_and, new_c, upd_c, relock_c] <;> omega)); (repeat (first | with_reducible assumption | refine Gd.new ?_ (by (simp only [objLt_row, objLt_dead, List.all_cons, List.all_nil, vlt1_int, vlt1_bool, vlt1_string, vlt1_nilp, vlt1_nils, vlt1_ptr, vlt1_sl, vlt1_func, vlt0_ptr, vlt0_sl, vlt0_int, vlt0_bool, vlt0_string, vlt0_nilp, vlt0_nils, vlt_int, vlt_bool, vlt_string, vlt_nilp, vlt_nils, vlt_ptr, vlt_sl, vlt_agg, vlt_func, List.toArray, Bool.and_true, Bool.true_and, Bool.and_self, Bool.and_eq_true, decide_eq_true_eq, and_true, true_and, new_c, upd_c, relock_c] <;> omega)) | refine Gd.upd ?_ (by (first | omega | (simp only [new_c, upd_c, relock_c] <;> omega))) (by (simp only [objLt_row, objLt_dead, List.all_cons, List.all_nil, vlt1_int, vlt1_bool, vlt1_string, vlt1_nilp, vlt1_nils, vlt1_ptr, vlt1_sl, vlt1_func, vlt0_ptr, vlt0_sl, vlt0_int, vlt0_bool, vlt0_string, vlt0_nilp, vlt0_nils, vlt_int, vlt_bool, vlt_string, vlt_nilp, vlt_nils, vlt_ptr, vlt_sl, vlt_agg, vlt_func, List.toArray, Bool.and_true, Bool.true_and, Bool.and_self, Bool.and_eq_true, decide_eq_true_eq, and_true, true_and, new_c, upd_c, relock_c] <;> omega)) | refine Gd.relock ?_)); done) | (with_reducible refine Gd.upd ?_ (by (first | omega | (simp only [new_c, upd_c, relock_c] <;> omega))) (by (simp only [objLt_row, objLt_dead, List.all_cons, List.all_nil, vlt1_int, vlt1_bool, vlt1_string, vlt1_nilp, vlt1_nils, vlt1_ptr, vlt1_sl, vlt1_func, vlt0_ptr, vlt0_sl, vlt0_int, vlt0_bool, vlt0_string, vlt0_nilp, vlt0_nils, vlt_int, vlt_bool, vlt_string, vlt_nilp, vlt_nils, vlt_ptr, vlt_sl, vlt_agg, vlt_func, List.toArray, Bool.and_true, Bool.true_and, Bool.and_self, Bool.and_eq_true, decide_eq_true_eq, and_true, true_and, new_c, upd_c, relock_c] <;> omega)); (repeat (first | with_reducible assumption | refine Gd.new ?_ (by (simp only [objLt_row, objLt_dead, List.all_cons, List.all_nil, vlt1_int, vlt1_bool, vlt1_string, vlt1_nilp, vlt1_nils, vlt1_ptr, vlt1_sl, vlt1_func, vlt0_ptr, vlt0_sl, vlt0_int, vlt0_bool, vlt0_string, vlt0_nilp, vlt0_nils, vlt_int, vlt_bool, vlt_string, vlt_nilp, vlt_nils, vlt_ptr, vlt_sl, vlt_agg, vlt_func, List.toArray, Bool.and_true, Bool.true_and, Bool.and_self, Bool.and_eq_true, decide_eq_true_eq, and_true, true_and, new_c, upd_c, relock_c] <;> omega)) | refine Gd.upd ?_ (by (first | omega | (simp only [new_c, upd_c, relock_c] <;> omega))) (by (simp only [objLt_row, objLt_dead, List.all_cons, List.all_nil, vlt1_int, vlt1_bool, vlt1_string, vlt1_nilp, vlt1_nils, vlt1_ptr, vlt1_sl, vlt1_func, vlt0_ptr, vlt0_sl, vlt0_int, vlt0_bool, vlt0_string, vlt0_nilp, vlt0_nils, vlt_int, vlt_bool, vlt_string, vlt_nilp, vlt_nils, vlt_ptr, vlt_sl, vlt_agg, vlt_func, List.toArray, Bool.and_true, Bool.true_and, Bool.and_self, Bool.and_eq_true, decide_eq_true_eq, and_true, true_and, new_c, upd_c, relock_c] <;> omega)) | refine Gd.relock ?_)); done) | (with_reducible refine Gd.relock2 ?_ ?_; rotate_left; simp only [new_c, upd_c, relock_c]; (repeat (first | with_reducible assumption | refine Gd.new ?_ (by (simp only [objLt_row, objLt_dead, List.all_cons, List.all_nil, vlt1_int, vlt1_bool, vlt1_string, vlt1_nilp, vlt1_nils, vlt1_ptr, vlt1_sl, vlt1_func, vlt0_ptr, vlt0_sl, vlt0_int, vlt0_bool, vlt0_string, vlt0_nilp, vlt0_nils, vlt_int, vlt_bool, vlt_string, vlt_nilp, vlt_nils, vlt_ptr, vlt_sl, vlt_agg, vlt_func, List.toArray, Bool.and_true, Bool.true_and, Bool.and_self, Bool.and_eq_true, decide_eq_true_eq, and_true, true_and, new_c, upd_c, relock_c] <;> omega)) | refine Gd.upd ?_ (by (first | omega | (simp only [new_c, upd_c, relock_c] <;> omega))) (by (simp only [objLt_row, objLt_dead, List.all_cons, List.all_nil, vlt1_int, vlt1_bool, vlt1_string, vlt1_nilp, vlt1_nils, vlt1_ptr, vlt1_sl, vlt1_func, vlt0_ptr, vlt0_sl, vlt0_int, vlt0_bool, vlt0_string, vlt0_nilp, vlt0_nils, vlt_int, vlt_bool, vlt_string, vlt_nilp, vlt_nils, vlt_ptr, vlt_sl, vlt_agg, vlt_func, List.toArray, Bool.and_true, Bool.true_and, Bool.and_self, Bool.and_eq_true, decide_eq_true_eq, and_true, true_and, new_c, upd_c, relock_c] <;> omega)) | refine Gd.relock ?_)); done) | (with_reducible refine nat_eq_id ?_; first | with_reducible rfl | (simp only [new_lock, upd_lock, relock_lock, new_c, upd_c, relock_c]; done)) | (simp (disch := (simp only [new_c, upd_c, relock_c] <;> omega)) only [new_at, new_lo, upd_self, upd_lo, relock_heap]; done) | (with_reducible refine Rd.low (by with_reducible assumption) ?_; (repeat (first | with_reducible exact Low.rfl' _ | with_reducible assumption | refine Low.new ?_ _ | refine Low.upd ?_ (by (first | omega | (simp only [new_c, upd_c, relock_c] <;> omega))) _)); done) | (simp only [flatR_int, flatR_bool, flatR_string, flatR_tuple, flatR_agg, flat_int, flat_bool, flat_string, flat_agg, flat0_int, flat0_bool, flat0_string, List.all_cons, List.all_nil, Bool.and_self, Bool.and_true, Bool.true_and]; done) | ((first | with_reducible refine int_lt_id ?_ | with_reducible refine int_le_id ?_); simp only [IsT, decide_eq_true_eq, Bool.and_eq_true, Bool.or_eq_true, Bool.not_eq_true', decide_eq_false_iff_not] at *; omega) | (simp only [objLt_row, objLt_dead, List.all_cons, List.all_nil, vlt1_int, vlt1_bool, vlt1_string, vlt1_nilp, vlt1_nils, vlt1_ptr, vlt1_sl, vlt1_func, vlt0_ptr, vlt0_sl, vlt0_int, vlt0_bool, vlt0_string, vlt0_nilp, vlt0_nils, vlt_int, vlt_bool, vlt_string, vlt_nilp, vlt_nils, vlt_ptr, vlt_sl, vlt_agg, vlt_func, List.toArray, Bool.and_true, Bool.true_and, Bool.and_self, Bool.and_eq_true, decide_eq_true_eq, and_true, true_and, new_c, upd_c, relock_c]; (try omega); done) | fail))) only [y1, y2, y3, y4, y5, y6, y7, y8, y9, t3, ha, gcR_some, flatR_int, flatR_bool, flatR_string, flatR_tuple, flatR_agg, flat_int, flat_bool, flat_string, flat_agg, flat0_int, flat0_bool, flat0_string, ↓bindV_some, ↓bindS_some, ↓bindT_some, ↓bindO_some, ↓condK_true, ↓condK_false, ↓condB_true, ↓condB_false, ↓gV_tt, ↓gV_tf, ↓gV_ft, ↓gV_ff, ↓gV_undef, wV_true, wV_false, ↓wO_true, ↓wO_false, ↓wS_true, ↓wS_false, ↓wT_true, ↓wT_false, bindV_some, bindS_some, bindT_some, bindO_some, condK_true, condK_false, ↓gV_t, ↓gV_f, gV_wt, gV_wf, wV_wV, wV_and, wrap64, wrapu32, wrapu8, wrapu64, ↓condK_B, wO_true, wO_false, wS_true, wS_false, wT_true, wT_false, wV_pos, wO_val, wS_val, pick_and, pick_or, pick_bool, pick_int, gcR_B, bindO_B, bin_add, bin_sub, bin_mul, bin_lss, bin_leq, bin_gtr, bin_geq, bin_eql, bin_neq, bin_and, bin_or, bin_xor, bin_andNot, un_not, un_neg, un_compl32, pick_true, pick_false, bin_str_eql, bin_str_neq, ex_nth, nil_ptr, nil_func, box_agg, box_int, box_bool, box_string, box_slice, box_pointer, cell_at, cells_at, put_cons, cellOf_row, cellsOf_row, putOf_row, nth_zero, nth_succ, aggOf_some, new_self, pos1, cast0, cast1, eq_self, new_upd, new_at, new_lo, upd_lo, new_c, new_lock, upd_self, upd_c, upd_lock, relock_heap, relock_c, relock_lock, relock_new, bindO_bindS, bindO_bindO, pick_or2, or_false, false_or, or_true, true_or, or_self, relock2, relock_id, storable_func, box_func, bne_ff, bne_tt, bne_tf, bne_ft, beq_tt, beq_ff, qS_true, unlock_some, splice_nil, splice_cons, decide_true, decide_false, beq_self_eq_true, and_self, and_true, true_and, and_false, false_and, if_true, if_false, Bool.not_true, Bool.not_false, Nat.zero_add, Nat.add_zero, List.length_cons, List.length_nil, List.drop_zero, List.drop_succ_cons, List.take_succ_cons, List.take_zero, List.set_cons_zero, List.set_cons_succ, List.all_cons, List.all_nil, storable_int, storable_bool, storable_string, storable_pointer, storable_slice, Bool.and_true, Bool.true_and, Bool.and_self, bff, bft, not_true_eq_false, not_false_eq_true, Nat.reduceAdd, Nat.reduceSub, Nat.reduceMul, Nat.reduceLeDiff, Nat.reduceLT, Nat.reduceEqDiff, Int.reduceLE, Int.reduceLT, Int.reduceAdd, Int.reduceNeg, Int.reduceEq, Int.reduceSub, Int.reduceMul, Int.reduceToNat, Int.toNat_natCast, Int.toNat_zero, Nat.zero_mul, Nat.mul_one, Bool.or_false, Bool.false_or, Bool.false_and, Bool.and_false, Bool.or_true, Bool.true_or, ↓reduceIte, Nat.le_refl, Option.isNone_some, Option.isNone_none, decide_eq_true_eq, Bool.not_eq_true', Bool.and_eq_true, Bool.or_eq_true, decide_eq_false_iff_not, Bool.not_not, reduceCtorEq, call_10, call_11, call_12, call_13, call_14, call_15, call_16, call_17, call_18, call_19, call_20, call_21, call_22, call_23, call_24, call_25, call_26, call_27, call_28, call_29, call_30, call_31, call_32, call_34, call_35, call_36, call_37, call_38, call_39, call_40, call_41, call_42, call_43, call_44, call_45, call_46, call_47, call_48, call_49, call_50, call_52, call_54, call_56, call_59, call_61, call_63, call_64, call_65, call_66, call_67, call_68, call_69, call_70, clo_33, clo_51, clo_53, clo_55, clo_57, clo_58, clo_60, clo_62, clo_71, ld_2, st_2, ld_3, st_3, ld_4, st_4, beql_4, bneq_4, ld_5, st_5, ld_22, st_22, len_22, ix_22, bsl_22, ld_23, st_23, len_23, ix_23, bsl_23, ld_24, st_24, len_24, ix_24, bsl_24, fa_26_0, fa_26_1, fa_26_2, fa_26_3, fa_26_4, fa_26_5, fa_26_6, fa_26_7, fa_26_8, ld_26, st_26, ld_30, st_30, fa_32_0, fa_32_1, fa_32_2, fa_32_3, ld_32, st_32, bseql_32, bsneq_32, ld_33, st_33, ixa_33, ld_45, st_45, len_45, ix_45, bsl_45, fa_47_0, fa_47_1, fa_47_2, fa_47_3, ld_47, st_47, bseql_47, bsneq_47, ld_48, st_48, ixa_48, ld_56, st_56, ld_57, st_57, len_57, ix_57, bsl_57, ld_70, st_70, ld_75, st_75, al_26, al_32, al_33, al_47, al_70, bu_26_0_1_2_3_4_8, bu_32_0_1_2_3, bu_33_0_1_2_3_4, bs_22_1_0, bs_23_0_, bs_23_1_0, bs_24_0_, bs_24_1_0, bs_45_0_, bs_45_1_0, bs_45_2_0_1, bs_57_1_0, ixv_33_i64_2, ixv_33_i64_4, cv_3_56, cv_5_3]
  · have er : sameC a b = false := by
      rw [Bool.eq_false_iff]
      intro hs
      rw [sameC_iff] at hs
      subst hs
      exact hall ⟨rfl, rfl, rfl, rfl, rfl, rfl, rfl, rfl, rfl⟩
    rw [er]
    refine gcR_wp (args := [_, _]) g ha rfl ?_
    simp -implicitDefEqProofs (maxSteps := 1000000) (disch := (refine id ?_; first | with_reducible assumption | (with_reducible refine IsT.left ?_; with_reducible assumption) | (with_reducible refine IsT.left (IsT.left ?_); with_reducible assumption) | ((first | with_reducible refine nat_lt_id ?_ | with_reducible refine nat_le_id ?_ | with_reducible refine nat_ne_id ?_); (first | (simp +arith only [new_c, new_lock, upd_c, upd_lock, relock_c, relock_lock]; done) | (simp only [new_c, new_lock, upd_c, upd_lock, relock_c, relock_lock]; with_reducible assumption) | (refine Nat.le_trans hN ?_; simp +arith only [new_c, new_lock, upd_c, upd_lock, relock_c, relock_lock]; done) | (refine Nat.le_trans hL ?_; simp +arith only [new_c, new_lock, upd_c, upd_lock, relock_c, relock_lock]; done) | (apply Nat.lt_of_lt_of_le; with_reducible assumption; simp +arith only [new_c, new_lock, upd_c, upd_lock, relock_c, relock_lock]; done) | (apply Nat.ne_of_lt; apply Nat.lt_of_lt_of_le; with_reducible assumption; simp +arith only [new_c, new_lock, upd_c, upd_lock, relock_c, relock_lock]; done) | fail)) | ((fail_if_success (with_reducible apply isT_of)); (fail_if_success (first | with_reducible refine nat_lt_id ?_ | with_reducible refine nat_le_id ?_ | with_reducible refine nat_ne_id ?_)); first | (simp +arith only [new_c, new_lock, upd_c, upd_lock, relock_c, relock_lock]; done) | (refine Nat.le_trans hN ?_; simp +arith only [new_c, new_lock, upd_c, upd_lock, relock_c, relock_lock]; done) | (refine Nat.le_trans hL ?_; simp +arith only [new_c, new_lock, upd_c, upd_lock, relock_c, relock_lock]; done) | omega | (with_reducible apply Gd.cl; with_reducible assumption) | (simp only [new_c, new_lock, upd_c, upd_lock, relock_c, relock_lock] <;> omega) | with_reducible exact Low.rfl' _ | (with_reducible refine Low.new ?_ _; (repeat (first | with_reducible exact Low.rfl' _ | with_reducible assumption | refine Low.new ?_ _ | refine Low.upd ?_ (by (first | omega | (simp only [new_c, upd_c, relock_c] <;> omega))) _)); done) | (with_reducible refine Low.upd ?_ (by (first | omega | (simp only [new_c, upd_c, relock_c] <;> omega))) _; (repeat (first | with_reducible exact Low.rfl' _ | with_reducible assumption | refine Low.new ?_ _ | refine Low.upd ?_ (by (first | omega | (simp only [new_c, upd_c, relock_c] <;> omega))) _)); done) | (with_reducible refine Gd.new ?_ (by (simp only [objLt_row, objLt_dead, List.all_cons, List.all_nil, vlt1_int, vlt1_bool, vlt1_string, vlt1_nilp, vlt1_nils, vlt1_ptr, vlt1_sl, vlt1_func, vlt0_ptr, vlt0_sl, vlt0_int, vlt0_bool, vlt0_string, vlt0_nilp, vlt0_nils, vlt_int, vlt_bool, vlt_string, vlt_nilp, vlt_nils, vlt_ptr, vlt_sl, vlt_agg, vlt_func, List.toArray, Bool.and_true, Bool.true_and, Bool.and_self, Bool.and_eq_true, decide_eq_true_eq, and_true, true_and, new_c, upd_c, relock_c] <;> omega)); (repeat (first | with_reducible assumption | refine Gd.new ?_ (by (simp only [objLt_row, objLt_dead, List.all_cons, List.all_nil, vlt1_int, vlt1_bool, vlt1_string, vlt1_nilp, vlt1_nils, vlt1_ptr, vlt1_sl, vlt1_func, vlt0_ptr, vlt0_sl, vlt0_int, vlt0_bool, vlt0_string, vlt0_nilp, vlt0_nils, vlt_int, vlt_bool, vlt_string, vlt_nilp, vlt_nils, vlt_ptr, vlt_sl, vlt_agg, vlt_func, List.toArray, Bool.and_true, Bool.true_and, Bool.and_self, Bool.and_eq_true, decide_eq_true_eq, and_true, true_and, new_c, upd_c, relock_c] <;> omega)) | refine Gd.upd ?_ (by (first | omega | (simp only [new_c, upd_c, relock_c] <;> omega))) (by (simp only [objLt_row, objLt_dead, List.all_cons, List.all_nil, vlt1_int, vlt1_bool, vlt1_string, vlt1_nilp, vlt1_nils, vlt1_ptr, vlt1_sl, vlt1_func, vlt0_ptr, vlt0_sl, vlt0_int, vlt0_bool, vlt0_string, vlt0_nilp, vlt0_nils, vlt_int, vlt_bool, vlt_string, vlt_nilp, vlt_nils, vlt_ptr, vlt_sl, vlt_agg, vlt_func, List.toArray, Bool.and_true, Bool.true_and, Bool.and_self, Bool.and_eq_true, decide_eq_true_eq, and_true, true_and, new_c, upd_c, relock_c] <;> omega)) | refine Gd.relock ?_)); done) | (with_reducible refine Gd.upd ?_ (by (first | omega | (simp only [new_c, upd_c, relock_c] <;> omega))) (by (simp only [objLt_row, objLt_dead, List.all_cons, List.all_nil, vlt1_int, vlt1_bool, vlt1_string, vlt1_nilp, vlt1_nils, vlt1_ptr, vlt1_sl, vlt1_func, vlt0_ptr, vlt0_sl, vlt0_int, vlt0_bool, vlt0_string, vlt0_nilp, vlt0_nils, vlt_int, vlt_bool, vlt_string, vlt_nilp, vlt_nils, vlt_ptr, vlt_sl, vlt_agg, vlt_func, List.toArray, Bool.and_true, Bool.true_and, Bool.and_self, Bool.and_eq_true, decide_eq_true_eq, and_true, true_and, new_c, upd_c, relock_c] <;> omega)); (repeat (first | with_reducible assumption | refine Gd.new ?_ (by (simp only [objLt_row, objLt_dead, List.all_cons, List.all_nil, vlt1_int, vlt1_bool, vlt1_string, vlt1_nilp, vlt1_nils, vlt1_ptr, vlt1_sl, vlt1_func, vlt0_ptr, vlt0_sl, vlt0_int, vlt0_bool, vlt0_string, vlt0_nilp, vlt0_nils, vlt_int, vlt_bool, vlt_string, vlt_nilp, vlt_nils, vlt_ptr, vlt_sl, vlt_agg, vlt_func, List.toArray, Bool.and_true, Bool.true_and, Bool.and_self, Bool.and_eq_true, decide_eq_true_eq, and_true, true_and, new_c, upd_c, relock_c] <;> omega)) | refine Gd.upd ?_ (by (first | omega | (simp only [new_c, upd_c, relock_c] <;> omega))) (by (simp only [objLt_row, objLt_dead, List.all_cons, List.all_nil, vlt1_int, vlt1_bool, vlt1_string, vlt1_nilp, vlt1_nils, vlt1_ptr, vlt1_sl, vlt1_func, vlt0_ptr, vlt0_sl, vlt0_int, vlt0_bool, vlt0_string, vlt0_nilp, vlt0_nils, vlt_int, vlt_bool, vlt_string, vlt_nilp, vlt_nils, vlt_ptr, vlt_sl, vlt_agg, vlt_func, List.toArray, Bool.and_true, Bool.true_and, Bool.and_self, Bool.and_eq_true, decide_eq_true_eq, and_true, true_and, new_c, upd_c, relock_c] <;> omega)) | refine Gd.relock ?_)); done) | (with_reducible refine Gd.relock2 ?_ ?_; rotate_left; simp only [new_c, upd_c, relock_c]; (repeat (first | with_reducible assumption | refine Gd.new ?_ (by (simp only [objLt_row, objLt_dead, List.all_cons, List.all_nil, vlt1_int, vlt1_bool, vlt1_string, vlt1_nilp, vlt1_nils, vlt1_ptr, vlt1_sl, vlt1_func, vlt0_ptr, vlt0_sl, vlt0_int, vlt0_bool, vlt0_string, vlt0_nilp, vlt0_nils, vlt_int, vlt_bool, vlt_string, vlt_nilp, vlt_nils, vlt_ptr, vlt_sl, vlt_agg, vlt_func, List.toArray, Bool.and_true, Bool.true_and, Bool.and_self, Bool.and_eq_true, decide_eq_true_eq, and_true, true_and, new_c, upd_c, relock_c] <;> omega)) | refine Gd.upd ?_ (by (first | omega | (simp only [new_c, upd_c, relock_c] <;> omega))) (by (simp only [objLt_row, objLt_dead, List.all_cons, List.all_nil, vlt1_int, vlt1_bool, vlt1_string, vlt1_nilp, vlt1_nils, vlt1_ptr, vlt1_sl, vlt1_func, vlt0_ptr, vlt0_sl, vlt0_int, vlt0_bool, vlt0_string, vlt0_nilp, vlt0_nils, vlt_int, vlt_bool, vlt_string, vlt_nilp, vlt_nils, vlt_ptr, vlt_sl, vlt_agg, vlt_func, List.toArray, Bool.and_true, Bool.true_and, Bool.and_self, Bool.and_eq_true, decide_eq_true_eq, and_true, true_and, new_c, upd_c, relock_c] <;> omega)) | refine Gd.relock ?_)); done) | (with_reducible refine nat_eq_id ?_; first | with_reducible rfl | (simp only [new_lock, upd_lock, relock_lock, new_c, upd_c, relock_c]; done)) | (simp (disch := (simp only [new_c, upd_c, relock_c] <;> omega)) only [new_at, new_lo, upd_self, upd_lo, relock_heap]; done) | (with_reducible refine Rd.low (by with_reducible assumption) ?_; (repeat (first | with_reducible exact Low.rfl' _ | with_reducible assumption | refine Low.new ?_ _ | refine Low.upd ?_ (by (first | omega | (simp only [new_c, upd_c, relock_c] <;> omega))) _)); done) | (simp only [flatR_int, flatR_bool, flatR_string, flatR_tuple, flatR_agg, flat_int, flat_bool, flat_string, flat_agg, flat0_int, flat0_bool, flat0_string, List.all_cons, List.all_nil, Bool.and_self, Bool.and_true, Bool.true_and]; done) | ((first | with_reducible refine int_lt_id ?_ | with_reducible refine int_le_id ?_); simp only [IsT, decide_eq_true_eq, Bool.and_eq_true, Bool.or_eq_true, Bool.not_eq_true', decide_eq_false_iff_not] at *; omega) | (simp only [objLt_row, objLt_dead, List.all_cons, List.all_nil, vlt1_int, vlt1_bool, vlt1_string, vlt1_nilp, vlt1_nils, vlt1_ptr, vlt1_sl, vlt1_func, vlt0_ptr, vlt0_sl, vlt0_int, vlt0_bool, vlt0_string, vlt0_nilp, vlt0_nils, vlt_int, vlt_bool, vlt_string, vlt_nilp, vlt_nils, vlt_ptr, vlt_sl, vlt_agg, vlt_func, List.toArray, Bool.and_true, Bool.true_and, Bool.and_self, Bool.and_eq_true, decide_eq_true_eq, and_true, true_and, new_c, upd_c, relock_c]; (try omega); done) | fail))) only [↓bindV_some, ↓bindS_some, ↓bindT_some, ↓bindO_some, ↓condK_true, ↓condK_false, ↓condB_true, ↓condB_false, ↓gV_tt, ↓gV_tf, ↓gV_ft, ↓gV_ff, ↓gV_undef, wV_true, wV_false, ↓wO_true, ↓wO_false, ↓wS_true, ↓wS_false, ↓wT_true, ↓wT_false, bindV_some, bindS_some, bindT_some, bindO_some, condK_true, condK_false, ↓gV_t, ↓gV_f, gV_wt, gV_wf, wV_wV, wV_and, wrap64, wrapu32, wrapu8, wrapu64, ↓condK_B, wO_true, wO_false, wS_true, wS_false, wT_true, wT_false, wV_pos, wO_val, wS_val, pick_and, pick_or, pick_bool, pick_int, gcR_B, bindO_B, bin_add, bin_sub, bin_mul, bin_lss, bin_leq, bin_gtr, bin_geq, bin_eql, bin_neq, bin_and, bin_or, bin_xor, bin_andNot, un_not, un_neg, un_compl32, pick_true, pick_false, bin_str_eql, bin_str_neq, ex_nth, nil_ptr, nil_func, box_agg, box_int, box_bool, box_string, box_slice, box_pointer, cell_at, cells_at, put_cons, cellOf_row, cellsOf_row, putOf_row, nth_zero, nth_succ, aggOf_some, new_self, pos1, cast0, cast1, eq_self, new_upd, new_at, new_lo, upd_lo, new_c, new_lock, upd_self, upd_c, upd_lock, relock_heap, relock_c, relock_lock, relock_new, bindO_bindS, bindO_bindO, pick_or2, or_false, false_or, or_true, true_or, or_self, relock2, relock_id, storable_func, box_func, bne_ff, bne_tt, bne_tf, bne_ft, beq_tt, beq_ff, qS_true, unlock_some, splice_nil, splice_cons, decide_true, decide_false, beq_self_eq_true, and_self, and_true, true_and, and_false, false_and, if_true, if_false, Bool.not_true, Bool.not_false, Nat.zero_add, Nat.add_zero, List.length_cons, List.length_nil, List.drop_zero, List.drop_succ_cons, List.take_succ_cons, List.take_zero, List.set_cons_zero, List.set_cons_succ, List.all_cons, List.all_nil, storable_int, storable_bool, storable_string, storable_pointer, storable_slice, Bool.and_true, Bool.true_and, Bool.and_self, bff, bft, not_true_eq_false, not_false_eq_true, Nat.reduceAdd, Nat.reduceSub, Nat.reduceMul, Nat.reduceLeDiff, Nat.reduceLT, Nat.reduceEqDiff, Int.reduceLE, Int.reduceLT, Int.reduceAdd, Int.reduceNeg, Int.reduceEq, Int.reduceSub, Int.reduceMul, Int.reduceToNat, Int.toNat_natCast, Int.toNat_zero, Nat.zero_mul, Nat.mul_one, Bool.or_false, Bool.false_or, Bool.false_and, Bool.and_false, Bool.or_true, Bool.true_or, ↓reduceIte, Nat.le_refl, Option.isNone_some, Option.isNone_none, decide_eq_true_eq, Bool.not_eq_true', Bool.and_eq_true, Bool.or_eq_true, decide_eq_false_iff_not, Bool.not_not, reduceCtorEq, call_10, call_11, call_12, call_13, call_14, call_15, call_16, call_17, call_18, call_19, call_20, call_21, call_22, call_23, call_24, call_25, call_26, call_27, call_28, call_29, call_30, call_31, call_32, call_34, call_35, call_36, call_37, call_38, call_39, call_40, call_41, call_42, call_43, call_44, call_45, call_46, call_47, call_48, call_49, call_50, call_52, call_54, call_56, call_59, call_61, call_63, call_64, call_65, call_66, call_67, call_68, call_69, call_70, clo_33, clo_51, clo_53, clo_55, clo_57, clo_58, clo_60, clo_62, clo_71, ld_2, st_2, ld_3, st_3, ld_4, st_4, beql_4, bneq_4, ld_5, st_5, ld_22, st_22, len_22, ix_22, bsl_22, ld_23, st_23, len_23, ix_23, bsl_23, ld_24, st_24, len_24, ix_24, bsl_24, fa_26_0, fa_26_1, fa_26_2, fa_26_3, fa_26_4, fa_26_5, fa_26_6, fa_26_7, fa_26_8, ld_26, st_26, ld_30, st_30, fa_32_0, fa_32_1, fa_32_2, fa_32_3, ld_32, st_32, bseql_32, bsneq_32, ld_33, st_33, ixa_33, ld_45, st_45, len_45, ix_45, bsl_45, fa_47_0, fa_47_1, fa_47_2, fa_47_3, ld_47, st_47, bseql_47, bsneq_47, ld_48, st_48, ixa_48, ld_56, st_56, ld_57, st_57, len_57, ix_57, bsl_57, ld_70, st_70, ld_75, st_75, al_26, al_32, al_33, al_47, al_70, bu_26_0_1_2_3_4_8, bu_32_0_1_2_3, bu_33_0_1_2_3_4, bs_22_1_0, bs_23_0_, bs_23_1_0, bs_24_0_, bs_24_1_0, bs_45_0_, bs_45_1_0, bs_45_2_0_1, bs_57_1_0, ixv_33_i64_2, ixv_33_i64_4, cv_3_56, cv_5_3]
    rw [condB_pos]
    · exact Wp.leaf rfl lw
    · refine Classical.byContradiction fun hc => hall ?_
      simp only [not_or, Classical.not_not, and_assoc] at hc
      exact hc
end
end Go.Proofs.Ytogcdgdnjinjkaa.F
end
section
namespace Go.Proofs.Ytogcdgdnjinjkaa.F
open Go Go.Proofs.Ytogcdgdnjinjkaa.E
set_option linter.unusedVariables false
set_option linter.unusedSimpArgs false
section
variable {W : World} {S : St}
def famD (j : Nat) : List (List Int) := (List.range j).map fun (i : Nat) => [100 * ((i : Int) + 1), 100 * ((i : Int) + 1) + 50]
def famE (h j : Nat) : List En := if 1 < h then (List.range j).map fun (i : Nat) => ⟨((i % h : Nat) : Int), 2 ^ h - 1 - 2 ^ (i % h), 10000 + 50000 * (i : Int), 64 + (i : Int)⟩ else []
def famC (h n : Nat) : Cfg := ⟨(h : Int), 2000000, 2000, 1000, 500, famD h, famE h n, [], 8⟩
theorem Low.ext {S0 S S' : St} {D : List Nat} (h : Low S0 S) (e : Ext D S S') (hd : ∀ i, i ∈ D → S0.c ≤ i) : Low S0 S' :=
  ⟨e.lock.trans h.1, Nat.le_trans h.2.1 e.c, fun i hi => (e.same i (Nat.lt_of_lt_of_le hi h.2.1) (fun hh => by have := hd i hh; omega)).trans (h.2.2 i hi)⟩
theorem sh1_0 : aBin p .shl 30 (.int .u32 1) (.int .u64 0) = some (.int .u32 ((2 ^ 0 : Nat) : Int)) := by kernel_rfl
theorem sh1_1 : aBin p .shl 30 (.int .u32 1) (.int .u64 1) = some (.int .u32 ((2 ^ 1 : Nat) : Int)) := by kernel_rfl
theorem sh1_2 : aBin p .shl 30 (.int .u32 1) (.int .u64 2) = some (.int .u32 ((2 ^ 2 : Nat) : Int)) := by kernel_rfl
theorem sh1_3 : aBin p .shl 30 (.int .u32 1) (.int .u64 3) = some (.int .u32 ((2 ^ 3 : Nat) : Int)) := by kernel_rfl
theorem sh1_4 : aBin p .shl 30 (.int .u32 1) (.int .u64 4) = some (.int .u32 ((2 ^ 4 : Nat) : Int)) := by kernel_rfl
theorem sh1_5 : aBin p .shl 30 (.int .u32 1) (.int .u64 5) = some (.int .u32 ((2 ^ 5 : Nat) : Int)) := by kernel_rfl
theorem sh1_6 : aBin p .shl 30 (.int .u32 1) (.int .u64 6) = some (.int .u32 ((2 ^ 6 : Nat) : Int)) := by kernel_rfl
theorem sh1 (h : Nat) (hh : h ≤ 6) : aBin p .shl 30 (.int .u32 1) (.int .u64 (h : Int)) = some (.int .u32 ((2 ^ h : Nat) : Int)) := by
  have : h = 0 ∨ h = 1 ∨ h = 2 ∨ h = 3 ∨ h = 4 ∨ h = 5 ∨ h = 6 := by omega
  rcases this with rfl | rfl | rfl | rfl | rfl | rfl | rfl
  · exact sh1_0
  · exact sh1_1
  · exact sh1_2
  · exact sh1_3
  · exact sh1_4
  · exact sh1_5
  · exact sh1_6
theorem famE_succ (h j : Nat) (h1 : 1 < h) : famE h (j + 1) = famE h j ++ [⟨((j % h : Nat) : Int), 2 ^ h - 1 - 2 ^ (j % h), 10000 + 50000 * (j : Int), 64 + (j : Int)⟩] := by
  unfold famE
  rw [if_pos h1, if_pos h1, List.range_succ, List.map_append]
  rfl
theorem famD_succ (j : Nat) : famD (j + 1) = famD j ++ [[100 * ((j : Int) + 1), 100 * ((j : Int) + 1) + 50]] := by
  unfold famD
  rw [List.range_succ, List.map_append]
  rfl
theorem famE_len (h j : Nat) (h1 : 1 < h) : (famE h j).length = j := by
  unfold famE
  rw [if_pos h1, List.length_map, List.length_range]
theorem famD_len (j : Nat) : (famD j).length = j := by
  unfold famD
  rw [List.length_map, List.length_range]
abbrev fcs (h : Nat) (vd ve : Value) : List Value := [.int .i64 (h : Int), .int .i64 2000000, .int .i64 2000, .int .i64 1000, .int .i64 500, vd, ve, .slice none 0 0, .int .i64 8]
theorem fam_end (S0 : St) (hN0 : W.heap.size ≤ S0.c) (hL0 : S0.lock ≤ S0.c) (h n : Nat) (hh : 1 ≤ h ∧ h ≤ 6) (hn16 : n ≤ 16) {b1 b2 : Nat} (h1 : S0.c ≤ b1) (h2 : S0.c ≤ b2) (h12 : b1 ≠ b2) (S : St) (g : Gd W S) (w : Low S0 S) (vd : Value) (svs : List Sv) (hsv : svs.map (·.l) = famD h) (rd : Rd VT W S vd svs) (h3 : ∀ s ∈ svs, Rd IT W S (.slice s.a s.n s.c) s.l) (nd : ∀ i, i ∈ blkOf vd → i ≠ b1 ∧ i ≠ b2) (n3 : ∀ s ∈ svs, ∀ i, i ∈ blkOf (.slice s.a s.n s.c) → i ≠ b1 ∧ i ≠ b2) {ve : Value} (re : Rd NT W S ve (famE h n)) (ne : ∀ i, i ∈ blkOf ve → i ≠ b1 ∧ i ≠ b2) (hbx : S.heap b2 = .row (fcs h vd ve) 0) (hb1 : S.heap b1 = (.row [.int .i64 0, .int .i64 0, .int .i64 0, .int .i64 0, .int .i64 0, .slice none 0 0, .slice none 0 0, .slice none 0 0, .int .i64 0] 0)) (j : Nat) (hj : j = n) (y1 y2 y3 y6 y9 y10 y11 y12 y13 y14 y15 y16 y17 y18 y19 y20 y21 y22 y23 y24 y25 y26 y27 y28 y29 y30 y31 y32 y33 y34 y65 : Value) :
    Wp (bindO (l22_1111010 W (.int .i64 (h : Int)) y1 y2 y3 (.pointer (some ⟨b1, 0, none⟩)) (.pointer (some ⟨b2, 0, none⟩)) y6 y9 y10 y11 y12 y13 y14 y15 y16 y17 y18 y19 y20 y21 y22 y23 y24 y25 y26 y27 y28 y29 y30 y31 y32 y33 y34 (.int .i64 (n : Int)) (.int .i64 (j : Int)) y65 S) (kc W c22 [1, 1, 1, 1, 0, 1, 0] f22)) (fun r => ∃ q, r.1 = cvl (famC h n) q ∧ Gd W r.2 ∧ Low S0 r.2 ∧ CfgAt W r.2 (famC h n) q) := by
  have hx : ¬ ((j : Int) < (n : Int)) := by omega
  have q1 := row_lt g.ok hb1
  have q2 := row_lt g.ok hbx
  have hWb1 : W.heap.size ≤ b1 := Nat.le_trans hN0 h1
  have hWb2 : W.heap.size ≤ b2 := Nat.le_trans hN0 h2
  have hLb1 : S.lock ≤ b1 := by rw [w.1]; exact Nat.le_trans hL0 h1
  have hLb2 : S.lock ≤ b2 := by rw [w.1]; exact Nat.le_trans hL0 h2
  have hub := rd.1
  have hue := re.1
  obtain ⟨ad, cd, rfl⟩ := rd.form
  obtain ⟨ae, ce, rfl⟩ := re.form
  have hsl : svs.length = (famD h).length := by rw [← hsv, List.length_map]
  have hob : objLt S.c (.row (fcs h (.slice ad svs.length cd) (.slice ae (famE h n).length ce)) 0) = true := by
    simp only [objLt_row, List.all_cons, List.all_nil, vlt1_int, hub, hue, vlt1_nils, Bool.and_self]
  have x : Ext [b1] S (S.upd b1 (.row (fcs h (.slice ad svs.length cd) (.slice ae (famE h n).length ce)) 0)) := Ext.upd g.ok q1 hob
  have hN := g.n; have hL : S.lock ≤ S.c := g.ok.1
  rw [r22_1111010]
  simp -implicitDefEqProofs (maxSteps := 1000000) (disch := (refine id ?_; first | ((fail_if_success (with_reducible apply isT_of)); (fail_if_success (first | fail)); first | omega | fail))) only [hx, hbx, hb1, k22_1111010_2, ↓bindV_some, ↓bindS_some, ↓bindT_some, ↓bindO_some, ↓condB_false, bindV_some, bindS_some, bindT_some, bindO_some, wrap64, wrapu64, ↓condK_B, bin_add, bin_mul, bin_lss, bin_gtr, cell_at, cells_at, put_cons, cellOf_row, cellsOf_row, putOf_row, nth_zero, nth_succ, aggOf_some, eq_self, upd_self, splice_nil, splice_cons, decide_false, and_self, Nat.zero_add, List.length_cons, List.length_nil, List.drop_zero, List.take_succ_cons, List.take_zero, List.set_cons_zero, List.set_cons_succ, List.all_cons, List.all_nil, storable_int, storable_slice, Bool.and_self, Nat.reduceAdd, Nat.reduceSub, Nat.reduceMul, Nat.reduceLeDiff, Nat.reduceLT, Nat.reduceEqDiff, Int.reduceLE, Int.reduceLT, Int.reduceAdd, Int.reduceNeg, Int.reduceEq, Int.reduceSub, Int.reduceMul, Int.reduceToNat, ↓reduceIte, Nat.le_refl, decide_eq_true_eq, reduceCtorEq, ld_23, fa_26_6, ld_26, st_26, cv_3_56]
  refine ⟨_, rfl, ⟨ad, cd, ae, ce, none, 0⟩, ?_, x.good g, Low.ext w x (fun i hi => by rw [List.mem_singleton] at hi; omega), ?_⟩
  · rw [hsl]; rfl
  · refine ⟨⟨svs, ?_, hsv, fun s hs => (h3 s hs).ext x fun i hi => ?_⟩, ?_, ?_, ?_, ?_, ?_, ?_, ?_, ?_⟩
    · show Rd VT W _ (.slice ad (famD h).length cd) svs
      rw [← hsl]
      exact rd.ext x fun i hi => by rw [List.mem_singleton]; exact (nd i hi).1
    · rw [List.mem_singleton]; exact (n3 s hs i hi).1
    · exact re.ext x fun i hi => by rw [List.mem_singleton]; exact (ne i hi).1
    · exact rd_nil
    · show (famD h).length ≤ _
      rw [famD_len]; omega
    · intro l hl
      obtain ⟨i, _, rfl⟩ := List.mem_map.1 hl
      show 2 ≤ _
      omega
    · show (famE h n).length ≤ _
      by_cases h1 : 1 < h
      · rw [famE_len h n h1]; omega
      · unfold famE; rw [if_neg h1]; exact Nat.zero_le _
    · exact Nat.zero_le _
    · intro e he
      have he : e ∈ famE h n := he
      unfold famE at he
      split at he
      · obtain ⟨i, _, rfl⟩ := List.mem_map.1 he
        have h6 : 2 ^ h ≤ 2 ^ 6 := Nat.pow_le_pow_right (by omega) hh.2
        exact Nat.lt_of_le_of_lt (Nat.sub_le _ _) (Nat.lt_of_le_of_lt (Nat.sub_le _ _) (Nat.lt_of_le_of_lt h6 (by decide)))
      · cases he
    · intro e he; cases he
set_option maxRecDepth 100000 in
theorem fam_loop2 (S0 : St) (hN0 : W.heap.size ≤ S0.c) (hL0 : S0.lock ≤ S0.c) (h n : Nat) (hh : 1 ≤ h ∧ h ≤ 6) (hn16 : n ≤ 16) {b1 b2 : Nat} (h1 : S0.c ≤ b1) (h2 : S0.c ≤ b2) (h12 : b1 ≠ b2) {vd : Value} (svs : List Sv) (hsv : svs.map (·.l) = famD h) (hvf : ∃ a n c, vd = .slice a n c) (nd : ∀ i, i ∈ blkOf vd → i ≠ b1 ∧ i ≠ b2) (n3 : ∀ s ∈ svs, ∀ i, i ∈ blkOf (.slice s.a s.n s.c) → i ≠ b1 ∧ i ≠ b2) (m : Nat) : ∀ (j : Nat) (hmj : m + j = n) (S : St) (g : Gd W S) (w : Low S0 S) (rd : Rd VT W S vd svs) (h3 : ∀ s ∈ svs, Rd IT W S (.slice s.a s.n s.c) s.l) (ve : Value) (re : Sl NT S ve (famE h j)) (ne : ∀ i, i ∈ blkOf ve → i ≠ b1 ∧ i ≠ b2 ∧ S0.c ≤ i) (nde : ∀ i, i ∈ blkOf vd → i ∉ blkOf ve) (n3e : ∀ s ∈ svs, ∀ i, i ∈ blkOf (.slice s.a s.n s.c) → i ∉ blkOf ve) (hbx : S.heap b2 = .row (fcs h vd ve) 0) (hb1 : S.heap b1 = (.row [.int .i64 0, .int .i64 0, .int .i64 0, .int .i64 0, .int .i64 0, .slice none 0 0, .slice none 0 0, .slice none 0 0, .int .i64 0] 0)) (y1 y2 y3 y6 y9 y10 y11 y12 y13 y14 y15 y16 y17 y18 y19 y20 y21 y22 y23 y24 y25 y26 y27 y28 y29 y30 y31 y32 y33 y34 y65 : Value),
    Wp (bindO (l22_1111010 W (.int .i64 (h : Int)) y1 y2 y3 (.pointer (some ⟨b1, 0, none⟩)) (.pointer (some ⟨b2, 0, none⟩)) y6 y9 y10 y11 y12 y13 y14 y15 y16 y17 y18 y19 y20 y21 y22 y23 y24 y25 y26 y27 y28 y29 y30 y31 y32 y33 y34 (.int .i64 (n : Int)) (.int .i64 (j : Int)) y65 S) (kc W c22 [1, 1, 1, 1, 0, 1, 0] f22)) (fun r => ∃ q, r.1 = cvl (famC h n) q ∧ Gd W r.2 ∧ Low S0 r.2 ∧ CfgAt W r.2 (famC h n) q) := by
  have hWb2 : W.heap.size ≤ b2 := Nat.le_trans hN0 h2
  induction m with
  | zero =>
    intro j hmj S g w rd h3 ve re ne nde n3e hbx hb1 y1 y2 y3 y6 y9 y10 y11 y12 y13 y14 y15 y16 y17 y18 y19 y20 y21 y22 y23 y24 y25 y26 y27 y28 y29 y30 y31 y32 y33 y34 y65
    have hjn : j = n := by omega
    rw [hjn] at re
    exact fam_end S0 hN0 hL0 h n hh hn16 h1 h2 h12 S g w vd svs hsv rd h3 nd n3 (re.rd g) (fun i hi => ⟨(ne i hi).1, (ne i hi).2.1⟩) hbx hb1 j hjn _ _ _ _ _ _ _ _ _ _ _ _ _ _ _ _ _ _ _ _ _ _ _ _ _ _ _ _ _ _ _
  | succ m ih =>
    intro j hmj S g w rd h3 ve re ne nde n3e hbx hb1 y1 y2 y3 y6 y9 y10 y11 y12 y13 y14 y15 y16 y17 y18 y19 y20 y21 y22 y23 y24 y25 y26 y27 y28 y29 y30 y31 y32 y33 y34 y65
    have q1 := row_lt g.ok hb1
    have q2 := row_lt g.ok hbx
    have hLb2 : S.lock ≤ b2 := by rw [w.1]; exact Nat.le_trans hL0 h2
    have hx : (j : Int) < (n : Int) := by omega
    have e2 : IntKind.i64.wrap ((j : Int) + 1) = ((j + 1 : Nat) : Int) := by rw [wrap64 (by omega) (by omega)]; omega
    have erem : aBin p .rem 3 (.int .i64 (j : Int)) (.int .i64 (h : Int)) = some (.int .i64 ((j % h : Nat) : Int)) := by
      rw [bin_rem _ _ _ _ (by omega)]; rfl
    have ih := ih (j + 1) (by omega)
    have hN := g.n; have hL : S.lock ≤ S.c := g.ok.1
    rw [r22_1111010]
    by_cases hg : 1 < h
    · have hg' : (1 : Int) < (h : Int) := by omega
      have hf : j % h < h := Nat.mod_lt _ (by omega)
      have es1 := sh1 h hh.2
      have es2 := sh1 (j % h) (by omega)
      have hP1 : 2 ^ h ≤ 2 ^ 6 := Nat.pow_le_pow_right (by omega) hh.2
      have hP2 : 2 ^ (j % h + 1) ≤ 2 ^ h := Nat.pow_le_pow_right (by omega) (by omega)
      have hP3 : 0 < 2 ^ (j % h) := Nat.pow_pos (by omega)
      rw [Nat.pow_succ] at hP2
      have eu1 : IntKind.u64.wrap (h : Int) = (h : Int) := wrapu64 (by omega) (by omega)
      have eu2 : IntKind.u64.wrap ((j % h : Nat) : Int) = ((j % h : Nat) : Int) := wrapu64 (by omega) (by omega)
      have ew1 : IntKind.u32.wrap (((2 ^ h : Nat) : Int) - 1) = ((2 ^ h - 1 : Nat) : Int) := by rw [wrapu32 (by omega) (by omega)]; omega
      have ew2 : IntKind.u32.wrap (((2 ^ h - 1 : Nat) : Int) - ((2 ^ (j % h) : Nat) : Int)) = ((2 ^ h - 1 - 2 ^ (j % h) : Nat) : Int) := by rw [wrapu32 (by omega) (by omega)]; omega
      rw [famE_succ h j hg] at ih
      have hlen := famE_len h j hg
      obtain ⟨ad, nn, cd, rfl⟩ := hvf
      have hk0 := re
      obtain ⟨ae, ce, rfl⟩ := re.form
      generalize ((j % h : Nat) : Int) = fr at *
      generalize 2 ^ h - 1 - 2 ^ (j % h) = to at *
      simp -implicitDefEqProofs (maxSteps := 1000000) (disch := (refine id ?_; first | ((fail_if_success (with_reducible apply isT_of)); (fail_if_success (first | fail)); first | omega | fail))) only [hx, hg', hbx, e2, erem, eu1, eu2, es1, es2, ew1, ew2, ↓bindV_some, ↓bindS_some, ↓bindT_some, ↓condB_true, ↓condB_false, bindV_some, bindS_some, bindT_some, wrap64, wrapu32, wrapu64, ↓condK_B, bin_add, bin_sub, bin_mul, bin_lss, bin_gtr, cell_at, put_cons, cellOf_row, putOf_row, nth_zero, nth_succ, eq_self, new_c, upd_self, bindO_bindS, splice_nil, splice_cons, decide_true, decide_false, and_self, Nat.zero_add, List.length_cons, List.length_nil, List.set_cons_zero, List.set_cons_succ, List.all_cons, List.all_nil, storable_slice, Bool.and_self, Nat.reduceAdd, Nat.reduceSub, Nat.reduceMul, Nat.reduceLeDiff, Nat.reduceLT, Nat.reduceEqDiff, Int.reduceLE, Int.reduceLT, Int.reduceAdd, Int.reduceNeg, Int.reduceEq, Int.reduceSub, Int.reduceMul, Int.reduceToNat, ↓reduceIte, reduceCtorEq, ld_23, st_23, fa_26_6, bu_32_0_1_2_3, bs_23_1_0, cv_3_56]
      have g1 : Gd W (S.new (.row (NT.fl [(⟨fr, to, 10000 + 50000 * (j : Int), 64 + (j : Int)⟩ : En)]) 0)) := g.new rfl
      refine Wp.grow (T := NT) (new := [(⟨fr, to, 10000 + 50000 * (j : Int), 64 + (j : Int)⟩ : En)]) g1 elc23 (hk0.new g.ok rfl) (src_made Try.underlying23 (sz := 4) (n := 1) g (l := NT.fl [(⟨fr, to, 10000 + 50000 * (j : Int), 64 + (j : Int)⟩ : En)]) rfl (by decide) 0) rfl (by rw [hlen]; simp only [List.length_cons, List.length_nil]; omega) fun v' S' g' sl' x2 fr' => ?_
      have x := Ext.pre g.ok (rfl : objLt (S.c + 1) (.row (NT.fl [(⟨fr, to, 10000 + 50000 * (j : Int), 64 + (j : Int)⟩ : En)]) 0) = true) x2
      have hk1 := sl'
      have hv' := (sl'.rd g').1
      obtain ⟨a', c', rfl⟩ := sl'.form
      have q1' : b1 < S'.c := Nat.lt_of_lt_of_le q1 x.c
      have q2' : b2 < S'.c := Nat.lt_of_lt_of_le q2 x.c
      have hbx' : S'.heap b2 = _ := (x.same b2 q2 (fun hh => (ne b2 hh).2.1 rfl)).trans hbx
      have hb1' : S'.heap b1 = _ := (x.same b1 q1 (fun hh => (ne b1 hh).1 rfl)).trans hb1
      have hL' : S'.lock ≤ b2 := by rw [x.lock]; exact hLb2
      simp -implicitDefEqProofs (maxSteps := 1000000) (disch := (refine id ?_; first | ((fail_if_success (with_reducible apply isT_of)); (fail_if_success (first | fail)); first | omega | fail))) only [hbx', ↓bindV_some, ↓bindS_some, ↓bindT_some, ↓condB_true, ↓condB_false, bindV_some, bindS_some, bindT_some, wrap64, wrapu32, wrapu64, ↓condK_B, bin_add, bin_sub, bin_mul, bin_lss, bin_gtr, cell_at, put_cons, cellOf_row, putOf_row, nth_zero, nth_succ, eq_self, new_c, upd_self, bindO_bindS, splice_nil, splice_cons, decide_true, decide_false, and_self, Nat.zero_add, List.length_cons, List.length_nil, List.set_cons_zero, List.set_cons_succ, List.all_cons, List.all_nil, storable_slice, Bool.and_self, Nat.reduceAdd, Nat.reduceSub, Nat.reduceMul, Nat.reduceLeDiff, Nat.reduceLT, Nat.reduceEqDiff, Int.reduceLE, Int.reduceLT, Int.reduceAdd, Int.reduceNeg, Int.reduceEq, Int.reduceSub, Int.reduceMul, Int.reduceToNat, ↓reduceIte, reduceCtorEq, ld_23, st_23, fa_26_6, bu_32_0_1_2_3, bs_23_1_0, cv_3_56]
      have hd' := vlt1_mono x.c rd.1
      have hob : objLt S'.c (.row (fcs h (.slice ad nn cd) (.slice a' (famE h j ++ [(⟨fr, to, 10000 + 50000 * (j : Int), 64 + (j : Int)⟩ : En)]).length c')) 0) = true := by
        simp only [objLt_row, List.all_cons, List.all_nil, vlt1_int, hd', hv', vlt1_nils, Bool.and_self]
      have x3 : Ext [b2] S' _ := Ext.upd g'.ok q2' hob
      have fr2 : ∀ i, i ∈ blkOf (.slice a' (famE h j ++ [(⟨fr, to, 10000 + 50000 * (j : Int), 64 + (j : Int)⟩ : En)]).length c') → i ≠ b1 ∧ i ≠ b2 ∧ S.c ≤ i := fun i hi => by
        have := fr' i hi
        rw [new_c] at this
        exact ⟨by omega, by omega, by omega⟩
      refine ih _ (x3.good g') (Low.ext (Low.ext w x (fun i hi => (ne i hi).2.2)) x3 (fun i hi => by rw [List.mem_singleton] at hi; omega)) ((rd.ext x nde).ext x3 fun i hi => by rw [List.mem_singleton]; exact (nd i hi).2) (fun s hs => ((h3 s hs).ext x (n3e s hs)).ext x3 fun i hi => by rw [List.mem_singleton]; exact (n3 s hs i hi).2) _ (hk1.keep x3 (fun i hi => by rw [List.mem_singleton]; exact (fr2 i hi).2.1) g'.ok) (fun i hi => ⟨(fr2 i hi).1, (fr2 i hi).2.1, by have := (fr2 i hi).2.2; have := w.2.1; omega⟩) (fun i hi h' => by have := rd.lt i hi; have := (fr2 i h').2.2; omega) (fun s hs i hi h' => by have := (h3 s hs).lt i hi; have := (fr2 i h').2.2; omega) (upd_self _ _) ((upd_ne _ h12).trans hb1') _ _ _ _ _ _ _ _ _ _ _ _ _ _ _ _ _ _ _ _ _ _ _ _ _ _ _ _ _ _ _
    · have hg' : ¬ (1 : Int) < (h : Int) := by omega
      have ee : famE h (j + 1) = famE h j := by unfold famE; rw [if_neg hg, if_neg hg]
      rw [ee] at ih
      simp -implicitDefEqProofs (maxSteps := 1000000) (disch := (refine id ?_; first | ((fail_if_success (with_reducible apply isT_of)); (fail_if_success (first | fail)); first | omega | fail))) only [hx, hg', hbx, e2, erem, ↓bindV_some, ↓bindS_some, ↓bindT_some, ↓condB_true, ↓condB_false, bindV_some, bindS_some, bindT_some, wrap64, wrapu32, wrapu64, ↓condK_B, bin_add, bin_sub, bin_mul, bin_lss, bin_gtr, cell_at, put_cons, cellOf_row, putOf_row, nth_zero, nth_succ, eq_self, new_c, upd_self, bindO_bindS, splice_nil, splice_cons, decide_true, decide_false, and_self, Nat.zero_add, List.length_cons, List.length_nil, List.set_cons_zero, List.set_cons_succ, List.all_cons, List.all_nil, storable_slice, Bool.and_self, Nat.reduceAdd, Nat.reduceSub, Nat.reduceMul, Nat.reduceLeDiff, Nat.reduceLT, Nat.reduceEqDiff, Int.reduceLE, Int.reduceLT, Int.reduceAdd, Int.reduceNeg, Int.reduceEq, Int.reduceSub, Int.reduceMul, Int.reduceToNat, ↓reduceIte, reduceCtorEq, ld_23, st_23, fa_26_6, bu_32_0_1_2_3, bs_23_1_0, cv_3_56]
      exact ih S g w rd h3 ve re ne nde n3e hbx hb1 _ _ _ _ _ _ _ _ _ _ _ _ _ _ _ _ _ _ _ _ _ _ _ _ _ _ _ _ _ _ _
set_option maxRecDepth 100000 in
theorem fam_loop1 (S0 : St) (hN0 : W.heap.size ≤ S0.c) (hL0 : S0.lock ≤ S0.c) (h n : Nat) (hh : 1 ≤ h ∧ h ≤ 6) (hn16 : n ≤ 16) {b1 b2 : Nat} (h1 : S0.c ≤ b1) (h2 : S0.c ≤ b2) (h12 : b1 ≠ b2) (m : Nat) : ∀ (j : Nat) (hmj : m + j = h) (S : St) (g : Gd W S) (w : Low S0 S) (svs : List Sv) (hsv : svs.map (·.l) = famD j) (vd : Value) (sd : Sl VT S vd svs) (h3 : ∀ s ∈ svs, Rd IT W S (.slice s.a s.n s.c) s.l) (nd : ∀ i, i ∈ blkOf vd → i ≠ b1 ∧ i ≠ b2 ∧ S0.c ≤ i) (n3 : ∀ s ∈ svs, ∀ i, i ∈ blkOf (.slice s.a s.n s.c) → i ≠ b1 ∧ i ≠ b2 ∧ i ∉ blkOf vd) (hbx : S.heap b2 = .row (fcs h vd (.slice none 0 0)) 0) (hb1 : S.heap b1 = (.row [.int .i64 0, .int .i64 0, .int .i64 0, .int .i64 0, .int .i64 0, .slice none 0 0, .slice none 0 0, .slice none 0 0, .int .i64 0] 0)) (y2 y3 y7 y8 y9 y10 y11 y12 y13 y14 y15 y16 y35 y36 y37 y38 y39 y40 y41 y42 y43 y44 y45 y46 y47 y48 y49 y50 y51 y52 y53 y54 y55 y56 y57 y58 y59 y60 y61 y62 y63 y64 y65 : Value),
    Wp (bindO (l22_111010 W (.int .i64 (h : Int)) (.int .i64 (n : Int)) y2 y3 (.pointer (some ⟨b1, 0, none⟩)) (.pointer (some ⟨b2, 0, none⟩)) y7 y8 y9 y10 y11 y12 y13 y14 y15 y16 (.int .i64 (h : Int)) (.int .i64 (j : Int)) y35 y36 y37 y38 y39 y40 y41 y42 y43 y44 y45 y46 y47 y48 y49 y50 y51 y52 y53 y54 y55 y56 y57 y58 y59 y60 y61 y62 y63 y64 y65 S) (kc W c22 [1, 1, 1, 0, 1, 0] f22)) (fun r => ∃ q, r.1 = cvl (famC h n) q ∧ Gd W r.2 ∧ Low S0 r.2 ∧ CfgAt W r.2 (famC h n) q) := by
  have hWb2 : W.heap.size ≤ b2 := Nat.le_trans hN0 h2
  induction m with
  | zero =>
    intro j hmj S g w svs hsv vd sd h3 nd n3 hbx hb1 y2 y3 y7 y8 y9 y10 y11 y12 y13 y14 y15 y16 y35 y36 y37 y38 y39 y40 y41 y42 y43 y44 y45 y46 y47 y48 y49 y50 y51 y52 y53 y54 y55 y56 y57 y58 y59 y60 y61 y62 y63 y64 y65
    have hjh : j = h := by omega
    have hx : ¬ ((j : Int) < (h : Int)) := by omega
    rw [hjh] at hsv
    have hN := g.n; have hL : S.lock ≤ S.c := g.ok.1
    rw [r22_111010]
    simp -implicitDefEqProofs (maxSteps := 1000000) (disch := (refine id ?_; first | ((fail_if_success (with_reducible apply isT_of)); (fail_if_success (first | fail)); first | omega | fail))) only [hx, k22_111010_0, ↓bindV_some, ↓bindS_some, ↓bindT_some, ↓bindO_some, ↓condB_true, ↓condB_false, bindV_some, bindS_some, bindT_some, bindO_some, wrap64, ↓condK_B, bin_add, bin_mul, bin_lss, cell_at, put_cons, cellOf_row, putOf_row, nth_zero, nth_succ, new_self, cast0, eq_self, new_lo, new_c, upd_self, bindO_bindS, true_or, splice_nil, splice_cons, decide_true, decide_false, and_self, Nat.zero_add, List.length_cons, List.length_nil, List.set_cons_zero, List.set_cons_succ, List.all_cons, List.all_nil, storable_slice, Bool.and_self, Nat.reduceAdd, Nat.reduceSub, Nat.reduceMul, Nat.reduceLeDiff, Nat.reduceLT, Nat.reduceEqDiff, Int.reduceLE, Int.reduceLT, Int.reduceAdd, Int.reduceNeg, Int.reduceEq, Int.reduceSub, Int.reduceMul, Int.reduceToNat, Bool.true_or, ↓reduceIte, reduceCtorEq, ld_22, st_22, fa_26_5, bs_22_1_0, bs_45_2_0_1]
    have e0 : famE h 0 = [] := by unfold famE; split <;> rfl
    have lp := fun y1 y2 y3 y6 y9 y10 y11 y12 y13 y14 y15 y16 y17 y18 y19 y20 y21 y22 y23 y24 y25 y26 y27 y28 y29 y30 y31 y32 y33 y34 y65 => fam_loop2 S0 hN0 hL0 h n hh hn16 h1 h2 h12 svs hsv (by obtain ⟨a, c, e⟩ := sd.form; exact ⟨a, _, c, e⟩) (fun i hi => ⟨(nd i hi).1, (nd i hi).2.1⟩) (fun s hs i hi => ⟨(n3 s hs i hi).1, (n3 s hs i hi).2.1⟩) n 0 rfl S g w (sd.rd g) h3 (.slice none 0 0) (by rw [e0]; exact sl_nil) (fun i hi => by cases hi) (fun i hi h' => by cases h') (fun s hs i hi h' => by cases h') hbx hb1 y1 y2 y3 y6 y9 y10 y11 y12 y13 y14 y15 y16 y17 y18 y19 y20 y21 y22 y23 y24 y25 y26 y27 y28 y29 y30 y31 y32 y33 y34 y65
    rw [cast0] at lp
    exact lp _ _ _ _ _ _ _ _ _ _ _ _ _ _ _ _ _ _ _ _ _ _ _ _ _ _ _ _ _ _ _
  | succ m ih =>
    intro j hmj S g w svs hsv vd sd h3 nd n3 hbx hb1 y2 y3 y7 y8 y9 y10 y11 y12 y13 y14 y15 y16 y35 y36 y37 y38 y39 y40 y41 y42 y43 y44 y45 y46 y47 y48 y49 y50 y51 y52 y53 y54 y55 y56 y57 y58 y59 y60 y61 y62 y63 y64 y65
    have q1 := row_lt g.ok hb1
    have q2 := row_lt g.ok hbx
    have hLb2 : S.lock ≤ b2 := by rw [w.1]; exact Nat.le_trans hL0 h2
    have hx : (j : Int) < (h : Int) := by omega
    have e2 : IntKind.i64.wrap ((j : Int) + 1) = (j : Int) + 1 := wrap64 (by omega) (by omega)
    have ec : ((j + 1 : Nat) : Int) = (j : Int) + 1 := by omega
    have ih := ih (j + 1) (by omega)
    rw [famD_succ, ec] at ih
    have hlen : svs.length = j := by rw [← famD_len j, ← hsv, List.length_map]
    have hdb := fun i (hi : i ∈ blkOf vd) => sd.lt g.ok i hi
    have hk0 := sd
    obtain ⟨ad, cd, rfl⟩ := sd.form
    have g1 : Gd W (S.new (.row (IT.fl [100 * ((j : Int) + 1), 100 * ((j : Int) + 1) + 50]) 0)) := g.new rfl
    have hcl2 : (VT.fl [(⟨some ⟨S.c, 0, none⟩, 2, 2, [100 * ((j : Int) + 1), 100 * ((j : Int) + 1) + 50]⟩ : Sv)]).all (vlt1 (S.c + 1)) = true := by
      show [Value.slice (some ⟨S.c, 0, none⟩) 2 2].all (vlt1 (S.c + 1)) = true
      simp
    have ho2 : objLt ((S.new (.row (IT.fl [100 * ((j : Int) + 1), 100 * ((j : Int) + 1) + 50]) 0)).c + 1) (.row (VT.fl [(⟨some ⟨S.c, 0, none⟩, 2, 2, [100 * ((j : Int) + 1), 100 * ((j : Int) + 1) + 50]⟩ : Sv)]) 0) = true := by
      rw [objLt_row]
      exact List.all_eq_true.2 fun x hx => vlt1_mono (by simp only [new_c]; omega) (List.all_eq_true.1 hcl2 x hx)
    have g2 : Gd W ((S.new (.row (IT.fl [100 * ((j : Int) + 1), 100 * ((j : Int) + 1) + 50]) 0)).new (.row (VT.fl [(⟨some ⟨S.c, 0, none⟩, 2, 2, [100 * ((j : Int) + 1), 100 * ((j : Int) + 1) + 50]⟩ : Sv)]) 0)) := g1.new ho2
    have hN := g.n; have hL : S.lock ≤ S.c := g.ok.1
    rw [r22_111010]
    simp -implicitDefEqProofs (maxSteps := 1000000) (disch := (refine id ?_; first | ((fail_if_success (with_reducible apply isT_of)); (fail_if_success (first | fail)); first | omega | fail))) only [hx, hbx, e2, ↓bindV_some, ↓bindS_some, ↓bindT_some, ↓bindO_some, ↓condB_true, ↓condB_false, bindV_some, bindS_some, bindT_some, bindO_some, wrap64, ↓condK_B, bin_add, bin_mul, bin_lss, cell_at, put_cons, cellOf_row, putOf_row, nth_zero, nth_succ, new_self, cast0, eq_self, new_lo, new_c, upd_self, bindO_bindS, true_or, splice_nil, splice_cons, decide_true, decide_false, and_self, Nat.zero_add, List.length_cons, List.length_nil, List.set_cons_zero, List.set_cons_succ, List.all_cons, List.all_nil, storable_slice, Bool.and_self, Nat.reduceAdd, Nat.reduceSub, Nat.reduceMul, Nat.reduceLeDiff, Nat.reduceLT, Nat.reduceEqDiff, Int.reduceLE, Int.reduceLT, Int.reduceAdd, Int.reduceNeg, Int.reduceEq, Int.reduceSub, Int.reduceMul, Int.reduceToNat, Bool.true_or, ↓reduceIte, reduceCtorEq, ld_22, st_22, fa_26_5, bs_22_1_0, bs_45_2_0_1]
    refine Wp.grow (T := VT) (new := [(⟨some ⟨S.c, 0, none⟩, 2, 2, [100 * ((j : Int) + 1), 100 * ((j : Int) + 1) + 50]⟩ : Sv)]) g2 elc22 ((hk0.new g.ok rfl).new g1.ok ho2) (src_made Try.underlying22 (sz := 1) (n := 1) g1 (l := VT.fl [(⟨some ⟨S.c, 0, none⟩, 2, 2, [100 * ((j : Int) + 1), 100 * ((j : Int) + 1) + 50]⟩ : Sv)]) rfl (by decide) 0) (List.all_eq_true.2 fun x hx => vlt1_mono (by simp only [new_c]; omega) (List.all_eq_true.1 hcl2 x hx)) (by rw [hlen]; simp only [List.length_cons, List.length_nil]; omega) fun v' S' g' sl' x2 fr' => ?_
    have x1 := Ext.pre g1.ok ho2 x2
    have x := Ext.pre g.ok (rfl : objLt (S.c + 1) (.row (IT.fl [100 * ((j : Int) + 1), 100 * ((j : Int) + 1) + 50]) 0) = true) x1
    have hk1 := sl'
    have hv' := (sl'.rd g').1
    obtain ⟨a', c', rfl⟩ := sl'.form
    have q1' : b1 < S'.c := Nat.lt_of_lt_of_le q1 x.c
    have q2' : b2 < S'.c := Nat.lt_of_lt_of_le q2 x.c
    have hbx' : S'.heap b2 = _ := (x.same b2 q2 (fun hh => (nd b2 hh).2.1 rfl)).trans hbx
    have hb1' : S'.heap b1 = _ := (x.same b1 q1 (fun hh => (nd b1 hh).1 rfl)).trans hb1
    have hL' : S'.lock ≤ b2 := by rw [x.lock]; exact hLb2
    simp -implicitDefEqProofs (maxSteps := 1000000) (disch := (refine id ?_; first | ((fail_if_success (with_reducible apply isT_of)); (fail_if_success (first | fail)); first | omega | fail))) only [hbx', ↓bindV_some, ↓bindS_some, ↓bindT_some, ↓bindO_some, ↓condB_true, ↓condB_false, bindV_some, bindS_some, bindT_some, bindO_some, wrap64, ↓condK_B, bin_add, bin_mul, bin_lss, cell_at, put_cons, cellOf_row, putOf_row, nth_zero, nth_succ, new_self, cast0, eq_self, new_lo, new_c, upd_self, bindO_bindS, true_or, splice_nil, splice_cons, decide_true, decide_false, and_self, Nat.zero_add, List.length_cons, List.length_nil, List.set_cons_zero, List.set_cons_succ, List.all_cons, List.all_nil, storable_slice, Bool.and_self, Nat.reduceAdd, Nat.reduceSub, Nat.reduceMul, Nat.reduceLeDiff, Nat.reduceLT, Nat.reduceEqDiff, Int.reduceLE, Int.reduceLT, Int.reduceAdd, Int.reduceNeg, Int.reduceEq, Int.reduceSub, Int.reduceMul, Int.reduceToNat, Bool.true_or, ↓reduceIte, reduceCtorEq, ld_22, st_22, fa_26_5, bs_22_1_0, bs_45_2_0_1]
    have hob : objLt S'.c (.row (fcs h (.slice a' (svs ++ [(⟨some ⟨S.c, 0, none⟩, 2, 2, [100 * ((j : Int) + 1), 100 * ((j : Int) + 1) + 50]⟩ : Sv)]).length c') (.slice none 0 0)) 0) = true := by
      simp only [objLt_row, List.all_cons, List.all_nil, vlt1_int, hv', vlt1_nils, Bool.and_self]
    have x3 : Ext [b2] S' _ := Ext.upd g'.ok q2' hob
    have fr2 : ∀ i, i ∈ blkOf (.slice a' (svs ++ [(⟨some ⟨S.c, 0, none⟩, 2, 2, [100 * ((j : Int) + 1), 100 * ((j : Int) + 1) + 50]⟩ : Sv)]).length c') → i ≠ b1 ∧ i ≠ b2 ∧ S.c + 1 + 1 ≤ i := fun i hi => by
      have := fr' i hi
      simp only [new_c] at this
      exact ⟨by omega, by omega, by omega⟩
    have hnew : S'.heap S.c = (.row (IT.fl [100 * ((j : Int) + 1), 100 * ((j : Int) + 1) + 50]) 0) := by
      rw [x2.same S.c (by simp only [new_c]; omega) (fun hh => by have := hdb S.c hh; omega), new_lo _ (by simp only [new_c]; omega)]
      exact new_self _
    refine ih _ (x3.good g') (Low.ext (Low.ext w x (fun i hi => (nd i hi).2.2)) x3 (fun i hi => by rw [List.mem_singleton] at hi; omega)) (svs ++ [(⟨some ⟨S.c, 0, none⟩, 2, 2, [100 * ((j : Int) + 1), 100 * ((j : Int) + 1) + 50]⟩ : Sv)]) (by rw [List.map_append, hsv]; rfl) _ (hk1.keep x3 (fun i hi => by rw [List.mem_singleton]; exact (fr2 i hi).2.1) g'.ok) ?_ (fun i hi => ⟨(fr2 i hi).1, (fr2 i hi).2.1, by have := (fr2 i hi).2.2; have := w.2.1; omega⟩) ?_ (upd_self _ _) ((upd_ne _ h12).trans hb1') _ _ _ _ _ _ _ _ _ _ _ _ _ _ _ _ _ _ _ _ _ _ _ _ _ _ _ _ _ _ _ _ _ _ _ _ _ _ _ _ _ _ _
    · intro s hs
      rcases List.mem_append.1 hs with hs | hs
      · exact ((h3 s hs).ext x (fun i hi => (n3 s hs i hi).2.2)).ext x3 fun i hi => by rw [List.mem_singleton]; exact (n3 s hs i hi).2.1
      · rw [List.mem_singleton] at hs
        subst hs
        refine (rd_made (T := IT) g' (k := 0) _ rfl (by simp) (by simp) (by have := g.n; omega) hnew).ext x3 fun i hi => ?_
        simp only [blkOf, List.mem_singleton] at hi ⊢
        omega
    · intro s hs i hi
      rcases List.mem_append.1 hs with hs | hs
      · exact ⟨(n3 s hs i hi).1, (n3 s hs i hi).2.1, fun h' => by have := (h3 s hs).lt i hi; have := (fr2 i h').2.2; omega⟩
      · rw [List.mem_singleton] at hs
        subst hs
        simp only [blkOf, List.mem_singleton] at hi
        exact ⟨by omega, by omega, fun h' => by have := (fr2 i h').2.2; omega⟩
def clampH (x : Int) : Nat := if x < 1 then 1 else if 6 < x then 6 else x.toNat
def clampN (x : Int) : Nat := if x < 0 then 0 else if 16 < x then 16 else x.toNat
set_option maxRecDepth 100000 in
theorem Family_ok {S : St} (g : Gd W S) (x y : Int) : Wp (cw W 22 #[i64 x, i64 y] S) (fun r => ∃ q, r.1 = cvl (famC (clampH x) (clampN y)) q ∧ Gd W r.2 ∧ Low S r.2 ∧ CfgAt W r.2 (famC (clampH x) (clampN y)) q) := by
  rw [eq22]
  have hh : 1 ≤ clampH x ∧ clampH x ≤ 6 := by unfold clampH; split; omega; split <;> omega
  have hn : clampN y ≤ 16 := by unfold clampN; split; omega; split <;> omega
  have eh : (if 6 < (if x < 1 then 1 else x) then (6 : Int) else (if x < 1 then 1 else x)) = ((clampH x : Nat) : Int) := by unfold clampH; split <;> split <;> omega
  have en : (if 16 < (if y < 0 then 0 else y) then (16 : Int) else (if y < 0 then 0 else y)) = ((clampN y : Nat) : Int) := by unfold clampN; split <;> split <;> omega
  generalize clampH x = h at *
  generalize clampN y = n at *
  have g1 : Gd W (S.new (.row [.int .i64 0, .int .i64 0, .int .i64 0, .int .i64 0, .int .i64 0, .slice none 0 0, .slice none 0 0, .slice none 0 0, .int .i64 0] 0)) := g.new rfl
  have g2 : Gd W ((S.new (.row [.int .i64 0, .int .i64 0, .int .i64 0, .int .i64 0, .int .i64 0, .slice none 0 0, .slice none 0 0, .slice none 0 0, .int .i64 0] 0)).new (.row (fcs h (.slice none 0 0) (.slice none 0 0)) 0)) := g1.new rfl
  have hN := g.n; have hL : S.lock ≤ S.c := g.ok.1
  simp -implicitDefEqProofs (maxSteps := 1000000) (disch := (refine id ?_; first | ((fail_if_success (with_reducible apply isT_of)); (fail_if_success (first | fail)); first | (simp +arith only [new_c, new_lock, upd_c, upd_lock, relock_c, relock_lock]; done) | (refine Nat.le_trans hL ?_; simp +arith only [new_c, new_lock, upd_c, upd_lock, relock_c, relock_lock]; done) | fail))) only [min_int, max_int, eh, en, ↓bindV_some, ↓bindS_some, ↓bindT_some, bindV_some, bindS_some, bindT_some, put_cons, putOf_row, new_self, cast0, eq_self, new_upd, new_at, new_lo, new_c, splice_nil, splice_cons, and_self, Nat.zero_add, List.length_cons, List.length_nil, List.set_cons_zero, List.set_cons_succ, List.all_cons, List.all_nil, storable_int, storable_slice, Bool.and_self, Nat.reduceAdd, Nat.reduceSub, Nat.reduceMul, Nat.reduceLeDiff, Nat.reduceLT, Nat.reduceEqDiff, Int.reduceLE, Int.reduceLT, Int.reduceAdd, Int.reduceNeg, Int.reduceEq, Int.reduceSub, Int.reduceMul, Int.reduceToNat, ↓reduceIte, Nat.le_refl, reduceCtorEq, st_26, al_26, bu_26_0_1_2_3_4_8]
  have lp := fun y2 y3 y7 y8 y9 y10 y11 y12 y13 y14 y15 y16 y35 y36 y37 y38 y39 y40 y41 y42 y43 y44 y45 y46 y47 y48 y49 y50 y51 y52 y53 y54 y55 y56 y57 y58 y59 y60 y61 y62 y63 y64 y65 => fam_loop1 S g.n g.ok.1 h n hh hn (b1 := S.c) (b2 := S.c + 1) (Nat.le_refl _) (Nat.le_succ _) (by omega) h 0 rfl ((S.new (.row [.int .i64 0, .int .i64 0, .int .i64 0, .int .i64 0, .int .i64 0, .slice none 0 0, .slice none 0 0, .slice none 0 0, .int .i64 0] 0)).new (.row (fcs h (.slice none 0 0) (.slice none 0 0)) 0)) g2 (Low.new (Low.new (Low.rfl' S) _) _) [] rfl (.slice none 0 0) sl_nil (fun s hs => by cases hs) (fun i hi => by cases hi) (fun s hs => by cases hs) (new_self _) (by rw [new_lo _ (by simp only [new_c]; omega)]; exact new_self _) y2 y3 y7 y8 y9 y10 y11 y12 y13 y14 y15 y16 y35 y36 y37 y38 y39 y40 y41 y42 y43 y44 y45 y46 y47 y48 y49 y50 y51 y52 y53 y54 y55 y56 y57 y58 y59 y60 y61 y62 y63 y64 y65
  rw [cast0] at lp
  exact lp _ _ _ _ _ _ _ _ _ _ _ _ _ _ _ _ _ _ _ _ _ _ _ _ _ _ _ _ _ _ _ _ _ _ _ _ _ _ _ _ _ _ _
end
end Go.Proofs.Ytogcdgdnjinjkaa.F
end
section
namespace Go.Proofs.Ytogcdgdnjinjkaa.F
open Go Go.Proofs.Ytogcdgdnjinjkaa.E
set_option linter.unusedVariables false
set_option linter.unusedSimpArgs false
section
variable {W : World}
theorem famC_B (h n : Nat) (hh : h ≤ 6) (hn : n ≤ 16) : CfgB (famC h n) := by
  refine ⟨?_, ?_, ?_, ?_, ?_, ?_⟩
  · show (famD h).length * 24 ≤ _
    rw [famD_len]; omega
  · intro l hl
    obtain ⟨i, _, rfl⟩ := List.mem_map.1 hl
    show 2 * 8 ≤ _
    omega
  · show (famE h n).length * 32 ≤ _
    by_cases h1 : 1 < h
    · rw [famE_len h n h1]; omega
    · unfold famE; rw [if_neg h1]; show 0 * 32 ≤ _; omega
  · show 0 * 32 ≤ _; omega
  · intro e he
    have he : e ∈ famE h n := he
    unfold famE at he
    split at he
    · obtain ⟨i, _, rfl⟩ := List.mem_map.1 he
      have h6 : 2 ^ h ≤ 2 ^ 6 := Nat.pow_le_pow_right (by omega) hh
      exact Nat.lt_of_le_of_lt (Nat.sub_le _ _) (Nat.lt_of_le_of_lt (Nat.sub_le _ _) (Nat.lt_of_le_of_lt h6 (by decide)))
    · cases he
  · intro e he; cases he
def e43 : En := ⟨0, 14, 10000, 64⟩
def d43 : Cfg := { famC 4 3 with hosts := 3 }
theorem v_chk : checkN (famC 4 3) = 0 := by decide +kernel
theorem v_chk2 : checkN d43 = 4 := by decide +kernel
theorem v_e : (famC 4 3).entries = e43 :: (famE 4 3).drop 1 := by decide +kernel
theorem v_same : sameC (famC 4 3) (famC 4 3) = true := by decide +kernel
theorem v_diff : sameC (famC 4 3) d43 = false := by decide +kernel
theorem v_fw : forward (famC 4 3) e43 = 13512 := by decide +kernel
theorem v_ea : early (famC 4 3) e43 = 13524 := by decide +kernel
theorem v_la : late (famC 4 3) e43 = 16524 := by decide +kernel
theorem v_qu : quiet (famC 4 3) = 7000 := by decide +kernel
theorem v_a0 : at0 (famC 4 3) e43 = 10012 := by decide +kernel
theorem v_a1 : at1 (famC 4 3) e43 = 13012 := by decide +kernel
set_option maxRecDepth 100000 in
set_option maxHeartbeats 2000000 in
theorem fixed_eq {S : St} (g : Gd W S) : cw W 10 #[] S = some (.bool true, S) := by
  rw [eq10]
  refine gcR_wp (args := []) g rfl rfl ?_
  have hN := g.n; have hL : S.lock ≤ S.c := g.ok.1
  simp -implicitDefEqProofs (maxSteps := 1000000) (disch := (refine id ?_; first | with_reducible assumption | (with_reducible refine IsT.left ?_; with_reducible assumption) | (with_reducible refine IsT.left (IsT.left ?_); with_reducible assumption) | ((first | with_reducible refine nat_lt_id ?_ | with_reducible refine nat_le_id ?_ | with_reducible refine nat_ne_id ?_); (first | (simp +arith only [new_c, new_lock, upd_c, upd_lock, relock_c, relock_lock]; done) | (simp only [new_c, new_lock, upd_c, upd_lock, relock_c, relock_lock]; with_reducible assumption) | (refine Nat.le_trans hN ?_; simp +arith only [new_c, new_lock, upd_c, upd_lock, relock_c, relock_lock]; done) | (refine Nat.le_trans hL ?_; simp +arith only [new_c, new_lock, upd_c, upd_lock, relock_c, relock_lock]; done) | (apply Nat.lt_of_lt_of_le; with_reducible assumption; simp +arith only [new_c, new_lock, upd_c, upd_lock, relock_c, relock_lock]; done) | (apply Nat.ne_of_lt; apply Nat.lt_of_lt_of_le; with_reducible assumption; simp +arith only [new_c, new_lock, upd_c, upd_lock, relock_c, relock_lock]; done) | fail)) | ((fail_if_success (with_reducible apply isT_of)); (fail_if_success (first | with_reducible refine nat_lt_id ?_ | with_reducible refine nat_le_id ?_ | with_reducible refine nat_ne_id ?_)); first | (simp +arith only [new_c, new_lock, upd_c, upd_lock, relock_c, relock_lock]; done) | (refine Nat.le_trans hN ?_; simp +arith only [new_c, new_lock, upd_c, upd_lock, relock_c, relock_lock]; done) | (refine Nat.le_trans hL ?_; simp +arith only [new_c, new_lock, upd_c, upd_lock, relock_c, relock_lock]; done) | omega | (with_reducible apply Gd.cl; with_reducible assumption) | (simp only [new_c, new_lock, upd_c, upd_lock, relock_c, relock_lock] <;> omega) | with_reducible exact Low.rfl' _ | (with_reducible refine Low.new ?_ _; (repeat (first | with_reducible exact Low.rfl' _ | with_reducible assumption | refine Low.new ?_ _ | refine Low.upd ?_ (by (first | omega | (simp only [new_c, upd_c, relock_c] <;> omega))) _)); done) | (with_reducible refine Low.upd ?_ (by (first | omega | (simp only [new_c, upd_c, relock_c] <;> omega))) _; (repeat (first | with_reducible exact Low.rfl' _ | with_reducible assumption | refine Low.new ?_ _ | refine Low.upd ?_ (by (first | omega | (simp only [new_c, upd_c, relock_c] <;> omega))) _)); done) | (with_reducible refine Gd.new ?_ (by (simp only [objLt_row, objLt_dead, List.all_cons, List.all_nil, vlt1_int, vlt1_bool, vlt1_string, vlt1_nilp, vlt1_nils, vlt1_ptr, vlt1_sl, vlt1_func, vlt0_ptr, vlt0_sl, vlt0_int, vlt0_bool, vlt0_string, vlt0_nilp, vlt0_nils, vlt_int, vlt_bool, vlt_string, vlt_nilp, vlt_nils, vlt_ptr, vlt_sl, vlt_agg, vlt_func, List.toArray, Bool.and_true, Bool.true_and, Bool.and_self, Bool.and_eq_true, decide_eq_true_eq, and_true, true_and, new_c, upd_c, relock_c] <;> omega)); (repeat (first | with_reducible assumption | refine Gd.new ?_ (by (simp only [objLt_row, objLt_dead, List.all_cons, List.all_nil, vlt1_int, vlt1_bool, vlt1_string, vlt1_nilp, vlt1_nils, vlt1_ptr, vlt1_sl, vlt1_func, vlt0_ptr, vlt0_sl, vlt0_int, vlt0_bool, vlt0_string, vlt0_nilp, vlt0_nils, vlt_int, vlt_bool, vlt_string, vlt_nilp, vlt_nils, vlt_ptr, vlt_sl, vlt_agg, vlt_func, List.toArray, Bool.and_true, Bool.true_and, Bool.and_self, Bool.and_eq_true, decide_eq_true_eq, and_true, true_and, new_c, upd_c, relock_c] <;> omega)) | refine Gd.upd ?_ (by (first | omega | (simp only [new_c, upd_c, relock_c] <;> omega))) (by (simp only [objLt_row, objLt_dead, List.all_cons, List.all_nil, vlt1_int, vlt1_bool, vlt1_string, vlt1_nilp, vlt1_nils, vlt1_ptr, vlt1_sl, vlt1_func, vlt0_ptr, vlt0_sl, vlt0_int, vlt0_bool, vlt0_string, vlt0_nilp, vlt0_nils, vlt_int, vlt_bool, vlt_string, vlt_nilp, vlt_nils, vlt_ptr, vlt_sl, vlt_agg, vlt_func, List.toArray, Bool.and_true, Bool.true_and, Bool.and_self, Bool.and_eq_true, decide_eq_true_eq, and_true, true_and, new_c, upd_c, relock_c] <;> omega)) | refine Gd.relock ?_)); done) | (with_reducible refine Gd.upd ?_ (by (first | omega | (simp only [new_c, upd_c, relock_c] <;> omega))) (by (simp only [objLt_row, objLt_dead, List.all_cons, List.all_nil, vlt1_int, vlt1_bool, vlt1_string, vlt1_nilp, vlt1_nils, vlt1_ptr, vlt1_sl, vlt1_func, vlt0_ptr, vlt0_sl, vlt0_int, vlt0_bool, vlt0_string, vlt0_nilp, vlt0_nils, vlt_int, vlt_bool, vlt_string, vlt_nilp, vlt_nils, vlt_ptr, vlt_sl, vlt_agg, vlt_func, List.toArray, Bool.and_true, Bool.true_and, Bool.and_self, Bool.and_eq_true, decide_eq_true_eq, and_true, true_and, new_c, upd_c, relock_c] <;> omega)); (repeat (first | with_reducible assumption | refine Gd.new ?_ (by (simp only [objLt_row, objLt_dead, List.all_cons, List.all_nil, vlt1_int, vlt1_bool, vlt1_string, vlt1_nilp, vlt1_nils, vlt1_ptr, vlt1_sl, vlt1_func, vlt0_ptr, vlt0_sl, vlt0_int, vlt0_bool, vlt0_string, vlt0_nilp, vlt0_nils, vlt_int, vlt_bool, vlt_string, vlt_nilp, vlt_nils, vlt_ptr, vlt_sl, vlt_agg, vlt_func, List.toArray, Bool.and_true, Bool.true_and, Bool.and_self, Bool.and_eq_true, decide_eq_true_eq, and_true, true_and, new_c, upd_c, relock_c] <;> omega)) | refine Gd.upd ?_ (by (first | omega | (simp only [new_c, upd_c, relock_c] <;> omega))) (by (simp only [objLt_row, objLt_dead, List.all_cons, List.all_nil, vlt1_int, vlt1_bool, vlt1_string, vlt1_nilp, vlt1_nils, vlt1_ptr, vlt1_sl, vlt1_func, vlt0_ptr, vlt0_sl, vlt0_int, vlt0_bool, vlt0_string, vlt0_nilp, vlt0_nils, vlt_int, vlt_bool, vlt_string, vlt_nilp, vlt_nils, vlt_ptr, vlt_sl, vlt_agg, vlt_func, List.toArray, Bool.and_true, Bool.true_and, Bool.and_self, Bool.and_eq_true, decide_eq_true_eq, and_true, true_and, new_c, upd_c, relock_c] <;> omega)) | refine Gd.relock ?_)); done) | (with_reducible refine Gd.relock2 ?_ ?_; rotate_left; simp only [new_c, upd_c, relock_c]; (repeat (first | with_reducible assumption | refine Gd.new ?_ (by (simp only [objLt_row, objLt_dead, List.all_cons, List.all_nil, vlt1_int, vlt1_bool, vlt1_string, vlt1_nilp, vlt1_nils, vlt1_ptr, vlt1_sl, vlt1_func, vlt0_ptr, vlt0_sl, vlt0_int, vlt0_bool, vlt0_string, vlt0_nilp, vlt0_nils, vlt_int, vlt_bool, vlt_string, vlt_nilp, vlt_nils, vlt_ptr, vlt_sl, vlt_agg, vlt_func, List.toArray, Bool.and_true, Bool.true_and, Bool.and_self, Bool.and_eq_true, decide_eq_true_eq, and_true, true_and, new_c, upd_c, relock_c] <;> omega)) | refine Gd.upd ?_ (by (first | omega | (simp only [new_c, upd_c, relock_c] <;> omega))) (by (simp only [objLt_row, objLt_dead, List.all_cons, List.all_nil, vlt1_int, vlt1_bool, vlt1_string, vlt1_nilp, vlt1_nils, vlt1_ptr, vlt1_sl, vlt1_func, vlt0_ptr, vlt0_sl, vlt0_int, vlt0_bool, vlt0_string, vlt0_nilp, vlt0_nils, vlt_int, vlt_bool, vlt_string, vlt_nilp, vlt_nils, vlt_ptr, vlt_sl, vlt_agg, vlt_func, List.toArray, Bool.and_true, Bool.true_and, Bool.and_self, Bool.and_eq_true, decide_eq_true_eq, and_true, true_and, new_c, upd_c, relock_c] <;> omega)) | refine Gd.relock ?_)); done) | (with_reducible refine nat_eq_id ?_; first | with_reducible rfl | (simp only [new_lock, upd_lock, relock_lock, new_c, upd_c, relock_c]; done)) | (simp (disch := (simp only [new_c, upd_c, relock_c] <;> omega)) only [new_at, new_lo, upd_self, upd_lo, relock_heap]; done) | (with_reducible refine Rd.low (by with_reducible assumption) ?_; (repeat (first | with_reducible exact Low.rfl' _ | with_reducible assumption | refine Low.new ?_ _ | refine Low.upd ?_ (by (first | omega | (simp only [new_c, upd_c, relock_c] <;> omega))) _)); done) | (simp only [flatR_int, flatR_bool, flatR_string, flatR_tuple, flatR_agg, flat_int, flat_bool, flat_string, flat_agg, flat0_int, flat0_bool, flat0_string, List.all_cons, List.all_nil, Bool.and_self, Bool.and_true, Bool.true_and]; done) | ((first | with_reducible refine int_lt_id ?_ | with_reducible refine int_le_id ?_); simp only [IsT, decide_eq_true_eq, Bool.and_eq_true, Bool.or_eq_true, Bool.not_eq_true', decide_eq_false_iff_not] at *; omega) | (simp only [objLt_row, objLt_dead, List.all_cons, List.all_nil, vlt1_int, vlt1_bool, vlt1_string, vlt1_nilp, vlt1_nils, vlt1_ptr, vlt1_sl, vlt1_func, vlt0_ptr, vlt0_sl, vlt0_int, vlt0_bool, vlt0_string, vlt0_nilp, vlt0_nils, vlt_int, vlt_bool, vlt_string, vlt_nilp, vlt_nils, vlt_ptr, vlt_sl, vlt_agg, vlt_func, List.toArray, Bool.and_true, Bool.true_and, Bool.and_self, Bool.and_eq_true, decide_eq_true_eq, and_true, true_and, new_c, upd_c, relock_c]; (try omega); done) | fail))) only [↓bindV_some, ↓bindS_some, ↓bindT_some, ↓condB_false, wV_true, ↓wO_true, ↓wS_true, bindV_some, bindS_some, bindT_some, ↓gV_t, ↓gV_f, ↓condK_B, wO_true, wS_true, wV_pos, wO_val, wS_val, pick_bool, bin_eql, bin_neq, un_not, ex_nth, cell_at, cells_at, put_cons, cellOf_row, cellsOf_row, putOf_row, nth_zero, nth_succ, aggOf_some, new_self, eq_self, new_upd, new_at, new_lo, new_c, splice_nil, splice_cons, decide_true, and_self, Bool.not_true, Bool.not_false, Nat.zero_add, Nat.add_zero, List.length_cons, List.length_nil, List.drop_zero, List.take_succ_cons, List.take_zero, List.set_cons_zero, List.set_cons_succ, List.all_cons, List.all_nil, storable_int, storable_slice, Bool.and_self, Nat.reduceAdd, Nat.reduceSub, Nat.reduceMul, Nat.reduceLeDiff, Nat.reduceLT, Nat.reduceEqDiff, Int.reduceLE, Int.reduceLT, Int.reduceAdd, Int.reduceNeg, Int.reduceEq, Int.reduceSub, Int.reduceMul, Int.reduceToNat, Int.toNat_zero, Nat.zero_mul, ↓reduceIte, Nat.le_refl, reduceCtorEq, call_11, call_15, call_16, call_17, call_18, call_19, call_22, call_25, call_26, st_3, ld_22, len_22, ld_23, len_23, ix_23, fa_26_0, fa_26_5, fa_26_6, ld_26, st_26, ld_32, st_32, al_26, al_32]
  refine Wp.bS ((Family_ok g 4 3).mono fun r hr => ?_)
  obtain ⟨v, S1⟩ := r
  obtain ⟨q, rfl, g1, w1, h1⟩ := hr
  rw [show clampH 4 = 4 from rfl, show clampN 3 = 3 from rfl] at h1 ⊢
  dsimp only at g1 w1 h1 ⊢
  have hB := famC_B 4 3 (by omega) (by omega)
  have l1 : (((famC 4 3).entries.length : Int) = 3) = True := eq_true rfl
  have l2 : (((famC 4 3).delays.length : Int) = 4) = True := eq_true rfl
  have c1 := v_chk
  have hq1 := h1.vlt
  have gB : Gd W (S1.new (.row (ccs (famC 4 3) q) 0)) := g1.new (objLt_mono (Nat.le_succ _) (cvl_obj hq1))
  have wB : Low S1 (S1.new (.row (ccs (famC 4 3) q) 0)) := Low.new (Low.rfl' S1) _
  have eC := Check_eq gB (famC 4 3) q (h1.low wB)
  rw [c1] at eC
  have hN1 := g1.n
  have hL1 := g1.ok.1
  have ecv : cvl (famC 4 3) q = .agg (ccs (famC 4 3) q).toArray := rfl
  have hb0 : (S1.new (.row (ccs (famC 4 3) q) 0)).heap S1.c = .row (ccs (famC 4 3) q) 0 := new_self _
  have v1 := v_chk2
  have v2 := v_e
  have v3 := v_same
  have v4 := v_diff
  have v5 := v_fw
  have v6 := v_ea
  have v7 := v_la
  have v8 := v_qu
  have v9 := v_a0
  have v10 := v_a1
  have hBd : d43 = { famC 4 3 with hosts := 3 } := rfl
  have hcs : famC 4 3 = ⟨(famC 4 3).hosts, (famC 4 3).cycle, (famC 4 3).delay, (famC 4 3).window, (famC 4 3).prec, (famC 4 3).delays, (famC 4 3).entries, (famC 4 3).links, (famC 4 3).queue⟩ := rfl
  have hlen : 0 < (famC 4 3).entries.length := by decide
  generalize famC 4 3 = c at *
  simp -implicitDefEqProofs (maxSteps := 1000000) (disch := (refine id ?_; first | with_reducible assumption | (with_reducible refine IsT.left ?_; with_reducible assumption) | (with_reducible refine IsT.left (IsT.left ?_); with_reducible assumption) | ((first | with_reducible refine nat_lt_id ?_ | with_reducible refine nat_le_id ?_ | with_reducible refine nat_ne_id ?_); (first | (simp +arith only [new_c, new_lock, upd_c, upd_lock, relock_c, relock_lock]; done) | (simp only [new_c, new_lock, upd_c, upd_lock, relock_c, relock_lock]; with_reducible assumption) | (refine Nat.le_trans hN ?_; simp +arith only [new_c, new_lock, upd_c, upd_lock, relock_c, relock_lock]; done) | (refine Nat.le_trans hL ?_; simp +arith only [new_c, new_lock, upd_c, upd_lock, relock_c, relock_lock]; done) | (apply Nat.lt_of_lt_of_le; with_reducible assumption; simp +arith only [new_c, new_lock, upd_c, upd_lock, relock_c, relock_lock]; done) | (apply Nat.ne_of_lt; apply Nat.lt_of_lt_of_le; with_reducible assumption; simp +arith only [new_c, new_lock, upd_c, upd_lock, relock_c, relock_lock]; done) | fail)) | ((fail_if_success (with_reducible apply isT_of)); (fail_if_success (first | with_reducible refine nat_lt_id ?_ | with_reducible refine nat_le_id ?_ | with_reducible refine nat_ne_id ?_)); first | (simp +arith only [new_c, new_lock, upd_c, upd_lock, relock_c, relock_lock]; done) | (refine Nat.le_trans hN ?_; simp +arith only [new_c, new_lock, upd_c, upd_lock, relock_c, relock_lock]; done) | (refine Nat.le_trans hL ?_; simp +arith only [new_c, new_lock, upd_c, upd_lock, relock_c, relock_lock]; done) | omega | (with_reducible apply Gd.cl; with_reducible assumption) | (simp only [new_c, new_lock, upd_c, upd_lock, relock_c, relock_lock] <;> omega) | with_reducible exact Low.rfl' _ | (with_reducible refine Low.new ?_ _; (repeat (first | with_reducible exact Low.rfl' _ | with_reducible assumption | refine Low.new ?_ _ | refine Low.upd ?_ (by (first | omega | (simp only [new_c, upd_c, relock_c] <;> omega))) _)); done) | (with_reducible refine Low.upd ?_ (by (first | omega | (simp only [new_c, upd_c, relock_c] <;> omega))) _; (repeat (first | with_reducible exact Low.rfl' _ | with_reducible assumption | refine Low.new ?_ _ | refine Low.upd ?_ (by (first | omega | (simp only [new_c, upd_c, relock_c] <;> omega))) _)); done) | (with_reducible refine Gd.new ?_ (by (simp only [objLt_row, objLt_dead, List.all_cons, List.all_nil, vlt1_int, vlt1_bool, vlt1_string, vlt1_nilp, vlt1_nils, vlt1_ptr, vlt1_sl, vlt1_func, vlt0_ptr, vlt0_sl, vlt0_int, vlt0_bool, vlt0_string, vlt0_nilp, vlt0_nils, vlt_int, vlt_bool, vlt_string, vlt_nilp, vlt_nils, vlt_ptr, vlt_sl, vlt_agg, vlt_func, List.toArray, Bool.and_true, Bool.true_and, Bool.and_self, Bool.and_eq_true, decide_eq_true_eq, and_true, true_and, new_c, upd_c, relock_c] <;> omega)); (repeat (first | with_reducible assumption | refine Gd.new ?_ (by (simp only [objLt_row, objLt_dead, List.all_cons, List.all_nil, vlt1_int, vlt1_bool, vlt1_string, vlt1_nilp, vlt1_nils, vlt1_ptr, vlt1_sl, vlt1_func, vlt0_ptr, vlt0_sl, vlt0_int, vlt0_bool, vlt0_string, vlt0_nilp, vlt0_nils, vlt_int, vlt_bool, vlt_string, vlt_nilp, vlt_nils, vlt_ptr, vlt_sl, vlt_agg, vlt_func, List.toArray, Bool.and_true, Bool.true_and, Bool.and_self, Bool.and_eq_true, decide_eq_true_eq, and_true, true_and, new_c, upd_c, relock_c] <;> omega)) | refine Gd.upd ?_ (by (first | omega | (simp only [new_c, upd_c, relock_c] <;> omega))) (by (simp only [objLt_row, objLt_dead, List.all_cons, List.all_nil, vlt1_int, vlt1_bool, vlt1_string, vlt1_nilp, vlt1_nils, vlt1_ptr, vlt1_sl, vlt1_func, vlt0_ptr, vlt0_sl, vlt0_int, vlt0_bool, vlt0_string, vlt0_nilp, vlt0_nils, vlt_int, vlt_bool, vlt_string, vlt_nilp, vlt_nils, vlt_ptr, vlt_sl, vlt_agg, vlt_func, List.toArray, Bool.and_true, Bool.true_and, Bool.and_self, Bool.and_eq_true, decide_eq_true_eq, and_true, true_and, new_c, upd_c, relock_c] <;> omega)) | refine Gd.relock ?_)); done) | (with_reducible refine Gd.upd ?_ (by (first | omega | (simp only [new_c, upd_c, relock_c] <;> omega))) (by (simp only [objLt_row, objLt_dead, List.all_cons, List.all_nil, vlt1_int, vlt1_bool, vlt1_string, vlt1_nilp, vlt1_nils, vlt1_ptr, vlt1_sl, vlt1_func, vlt0_ptr, vlt0_sl, vlt0_int, vlt0_bool, vlt0_string, vlt0_nilp, vlt0_nils, vlt_int, vlt_bool, vlt_string, vlt_nilp, vlt_nils, vlt_ptr, vlt_sl, vlt_agg, vlt_func, List.toArray, Bool.and_true, Bool.true_and, Bool.and_self, Bool.and_eq_true, decide_eq_true_eq, and_true, true_and, new_c, upd_c, relock_c] <;> omega)); (repeat (first | with_reducible assumption | refine Gd.new ?_ (by (simp only [objLt_row, objLt_dead, List.all_cons, List.all_nil, vlt1_int, vlt1_bool, vlt1_string, vlt1_nilp, vlt1_nils, vlt1_ptr, vlt1_sl, vlt1_func, vlt0_ptr, vlt0_sl, vlt0_int, vlt0_bool, vlt0_string, vlt0_nilp, vlt0_nils, vlt_int, vlt_bool, vlt_string, vlt_nilp, vlt_nils, vlt_ptr, vlt_sl, vlt_agg, vlt_func, List.toArray, Bool.and_true, Bool.true_and, Bool.and_self, Bool.and_eq_true, decide_eq_true_eq, and_true, true_and, new_c, upd_c, relock_c] <;> omega)) | refine Gd.upd ?_ (by (first | omega | (simp only [new_c, upd_c, relock_c] <;> omega))) (by (simp only [objLt_row, objLt_dead, List.all_cons, List.all_nil, vlt1_int, vlt1_bool, vlt1_string, vlt1_nilp, vlt1_nils, vlt1_ptr, vlt1_sl, vlt1_func, vlt0_ptr, vlt0_sl, vlt0_int, vlt0_bool, vlt0_string, vlt0_nilp, vlt0_nils, vlt_int, vlt_bool, vlt_string, vlt_nilp, vlt_nils, vlt_ptr, vlt_sl, vlt_agg, vlt_func, List.toArray, Bool.and_true, Bool.true_and, Bool.and_self, Bool.and_eq_true, decide_eq_true_eq, and_true, true_and, new_c, upd_c, relock_c] <;> omega)) | refine Gd.relock ?_)); done) | (with_reducible refine Gd.relock2 ?_ ?_; rotate_left; simp only [new_c, upd_c, relock_c]; (repeat (first | with_reducible assumption | refine Gd.new ?_ (by (simp only [objLt_row, objLt_dead, List.all_cons, List.all_nil, vlt1_int, vlt1_bool, vlt1_string, vlt1_nilp, vlt1_nils, vlt1_ptr, vlt1_sl, vlt1_func, vlt0_ptr, vlt0_sl, vlt0_int, vlt0_bool, vlt0_string, vlt0_nilp, vlt0_nils, vlt_int, vlt_bool, vlt_string, vlt_nilp, vlt_nils, vlt_ptr, vlt_sl, vlt_agg, vlt_func, List.toArray, Bool.and_true, Bool.true_and, Bool.and_self, Bool.and_eq_true, decide_eq_true_eq, and_true, true_and, new_c, upd_c, relock_c] <;> omega)) | refine Gd.upd ?_ (by (first | omega | (simp only [new_c, upd_c, relock_c] <;> omega))) (by (simp only [objLt_row, objLt_dead, List.all_cons, List.all_nil, vlt1_int, vlt1_bool, vlt1_string, vlt1_nilp, vlt1_nils, vlt1_ptr, vlt1_sl, vlt1_func, vlt0_ptr, vlt0_sl, vlt0_int, vlt0_bool, vlt0_string, vlt0_nilp, vlt0_nils, vlt_int, vlt_bool, vlt_string, vlt_nilp, vlt_nils, vlt_ptr, vlt_sl, vlt_agg, vlt_func, List.toArray, Bool.and_true, Bool.true_and, Bool.and_self, Bool.and_eq_true, decide_eq_true_eq, and_true, true_and, new_c, upd_c, relock_c] <;> omega)) | refine Gd.relock ?_)); done) | (with_reducible refine nat_eq_id ?_; first | with_reducible rfl | (simp only [new_lock, upd_lock, relock_lock, new_c, upd_c, relock_c]; done)) | (simp (disch := (simp only [new_c, upd_c, relock_c] <;> omega)) only [new_at, new_lo, upd_self, upd_lo, relock_heap]; done) | (with_reducible refine Rd.low (by with_reducible assumption) ?_; (repeat (first | with_reducible exact Low.rfl' _ | with_reducible assumption | refine Low.new ?_ _ | refine Low.upd ?_ (by (first | omega | (simp only [new_c, upd_c, relock_c] <;> omega))) _)); done) | (simp only [flatR_int, flatR_bool, flatR_string, flatR_tuple, flatR_agg, flat_int, flat_bool, flat_string, flat_agg, flat0_int, flat0_bool, flat0_string, List.all_cons, List.all_nil, Bool.and_self, Bool.and_true, Bool.true_and]; done) | ((first | with_reducible refine int_lt_id ?_ | with_reducible refine int_le_id ?_); simp only [IsT, decide_eq_true_eq, Bool.and_eq_true, Bool.or_eq_true, Bool.not_eq_true', decide_eq_false_iff_not] at *; omega) | (simp only [objLt_row, objLt_dead, List.all_cons, List.all_nil, vlt1_int, vlt1_bool, vlt1_string, vlt1_nilp, vlt1_nils, vlt1_ptr, vlt1_sl, vlt1_func, vlt0_ptr, vlt0_sl, vlt0_int, vlt0_bool, vlt0_string, vlt0_nilp, vlt0_nils, vlt_int, vlt_bool, vlt_string, vlt_nilp, vlt_nils, vlt_ptr, vlt_sl, vlt_agg, vlt_func, List.toArray, Bool.and_true, Bool.true_and, Bool.and_self, Bool.and_eq_true, decide_eq_true_eq, and_true, true_and, new_c, upd_c, relock_c]; (try omega); done) | fail))) only [l1, l2, eC, ↓bindV_some, ↓bindS_some, ↓bindT_some, ↓condB_false, wV_true, ↓wO_true, ↓wS_true, bindV_some, bindS_some, bindT_some, ↓gV_t, ↓gV_f, ↓condK_B, wO_true, wS_true, wV_pos, wO_val, wS_val, pick_bool, bin_eql, bin_neq, un_not, ex_nth, cell_at, cells_at, put_cons, cellOf_row, cellsOf_row, putOf_row, nth_zero, nth_succ, aggOf_some, new_self, eq_self, new_upd, new_at, new_lo, new_c, splice_nil, splice_cons, decide_true, and_self, Bool.not_true, Bool.not_false, Nat.zero_add, Nat.add_zero, List.length_cons, List.length_nil, List.drop_zero, List.take_succ_cons, List.take_zero, List.set_cons_zero, List.set_cons_succ, List.all_cons, List.all_nil, storable_int, storable_slice, Bool.and_self, Nat.reduceAdd, Nat.reduceSub, Nat.reduceMul, Nat.reduceLeDiff, Nat.reduceLT, Nat.reduceEqDiff, Int.reduceLE, Int.reduceLT, Int.reduceAdd, Int.reduceNeg, Int.reduceEq, Int.reduceSub, Int.reduceMul, Int.reduceToNat, Int.toNat_zero, Nat.zero_mul, ↓reduceIte, Nat.le_refl, reduceCtorEq, call_11, call_15, call_16, call_17, call_18, call_19, call_22, call_25, call_26, st_3, ld_22, len_22, ld_23, len_23, ix_23, fa_26_0, fa_26_5, fa_26_6, ld_26, st_26, ld_32, st_32, al_26, al_32]
  refine Wp.bS ((Copy_ok gB c q hB (h1.low wB)).mono fun r hr => ?_)
  obtain ⟨v, S2⟩ := r
  obtain ⟨q', rfl, g2, w2, hO⟩ := hr
  dsimp only at g2 w2 hO ⊢
  have h2 := hO.at g2 gB.n (Nat.le_refl _) hB
  have h1' := (h1.low wB).low w2
  have hb1 : S2.heap S1.c = .row (ccs c q) 0 := (w2.2.2 S1.c (Nat.lt_succ_self _)).trans hb0
  have h2d : CfgAt W S2 d43 q' := by
    rw [hBd]
    exact ⟨h2.del, h2.ent, h2.lnk, h2.ld, h2.ldd, h2.le, h2.ll, h2.et, h2.lt⟩
  obtain ⟨be, oe, ce, ee, hbe, hre⟩ := h1'.ent.at hlen
  have eA : q.ae = some ⟨be, oe, none⟩ := by injection ee
  have e5 : ∀ U : St, Low S2 U → U.cells W ⟨be, oe, none⟩ 4 = some [.int .i64 0, .int .u32 14, .int .i64 10000, .int .i64 64] := fun U wU => by
    have := (hre 0 hlen).1
    rw [show c.entries[0] = e43 by simp only [v2]; rfl] at this
    rw [cells_same (S := S2) (wU.2.2 be hbe)]
    rw [Nat.zero_mul, Nat.add_zero] at this
    exact this
  have hN2 := g2.n
  have hL2 := g2.ok.1
  have hlt12 : S1.c < S2.c := w2.2.1
  obtain ⟨ad, cd, ae, ce0, al, cl⟩ := q
  simp only at eA
  subst eA
  have hL21 : S2.lock ≤ S2.c + 1 := Nat.le_succ_of_le hL2
  have hN21 : W.heap.size ≤ S2.c + 1 := Nat.le_succ_of_le hN2
  have hlt13 : S1.c < S2.c + 1 := Nat.lt_succ_of_lt hlt12
  have hq3 : vlt S2.c (cvl d43 q') = true := h2d.vlt
  have g3 : Gd W (S2.new (.row [.int .i64 3, .int .i64 c.cycle, .int .i64 c.delay, .int .i64 c.window, .int .i64 c.prec, .slice q'.ad c.delays.length q'.cd, .slice q'.ae c.entries.length q'.ce, .slice q'.al c.links.length q'.cl, .int .i64 c.queue] 0)) := g2.new (by have := objLt_mono (o := .row (ccs d43 q') 0) (Nat.le_succ S2.c) (cvl_obj hq3); rw [hBd] at this; exact this)
  have g4 : Gd W ((S2.new (.row [.int .i64 3, .int .i64 c.cycle, .int .i64 c.delay, .int .i64 c.window, .int .i64 c.prec, .slice q'.ad c.delays.length q'.cd, .slice q'.ae c.entries.length q'.ce, .slice q'.al c.links.length q'.cl, .int .i64 c.queue] 0)).new (.row [.int .i64 0, .int .u32 14, .int .i64 10000, .int .i64 64] 0)) := g3.new rfl
  have w4 : Low S2 ((S2.new (.row [.int .i64 3, .int .i64 c.cycle, .int .i64 c.delay, .int .i64 c.window, .int .i64 c.prec, .slice q'.ad c.delays.length q'.cd, .slice q'.ae c.entries.length q'.ce, .slice q'.al c.links.length q'.cl, .int .i64 c.queue] 0)).new (.row [.int .i64 0, .int .u32 14, .int .i64 10000, .int .i64 64] 0)) := Low.new (Low.new (Low.rfl' S2) _) _
  have hb4 : ((S2.new (.row [.int .i64 3, .int .i64 c.cycle, .int .i64 c.delay, .int .i64 c.window, .int .i64 c.prec, .slice q'.ad c.delays.length q'.cd, .slice q'.ae c.entries.length q'.ce, .slice q'.al c.links.length q'.cl, .int .i64 c.queue] 0)).new (.row [.int .i64 0, .int .u32 14, .int .i64 10000, .int .i64 64] 0)).heap S1.c = _ := (w4.2.2 S1.c hlt12).trans hb1
  have k1 : cw W 11 #[(.agg #[.int .i64 3, .int .i64 c.cycle, .int .i64 c.delay, .int .i64 c.window, .int .i64 c.prec, .slice q'.ad c.delays.length q'.cd, .slice q'.ae c.entries.length q'.ce, .slice q'.al c.links.length q'.cl, .int .i64 c.queue])] ((S2.new (.row [.int .i64 3, .int .i64 c.cycle, .int .i64 c.delay, .int .i64 c.window, .int .i64 c.prec, .slice q'.ad c.delays.length q'.cd, .slice q'.ae c.entries.length q'.ce, .slice q'.al c.links.length q'.cl, .int .i64 c.queue] 0)).new (.row [.int .i64 0, .int .u32 14, .int .i64 10000, .int .i64 64] 0)) = some (i64 4, ((S2.new (.row [.int .i64 3, .int .i64 c.cycle, .int .i64 c.delay, .int .i64 c.window, .int .i64 c.prec, .slice q'.ad c.delays.length q'.cd, .slice q'.ae c.entries.length q'.ce, .slice q'.al c.links.length q'.cl, .int .i64 c.queue] 0)).new (.row [.int .i64 0, .int .u32 14, .int .i64 10000, .int .i64 64] 0))) := by
    have h := (Check_eq g4 d43 q' (h2d.low w4)).trans (by rw [v1])
    rw [hBd] at h
    exact h
  have k2 : cw W 25 #[(.agg #[.int .i64 c.hosts, .int .i64 c.cycle, .int .i64 c.delay, .int .i64 c.window, .int .i64 c.prec, .slice ad c.delays.length cd, .slice (some ⟨be, oe, none⟩) c.entries.length ce0, .slice al c.links.length cl, .int .i64 c.queue]), (.agg #[.int .i64 c.hosts, .int .i64 c.cycle, .int .i64 c.delay, .int .i64 c.window, .int .i64 c.prec, .slice ad c.delays.length cd, .slice (some ⟨be, oe, none⟩) c.entries.length ce0, .slice al c.links.length cl, .int .i64 c.queue])] ((S2.new (.row [.int .i64 3, .int .i64 c.cycle, .int .i64 c.delay, .int .i64 c.window, .int .i64 c.prec, .slice q'.ad c.delays.length q'.cd, .slice q'.ae c.entries.length q'.ce, .slice q'.al c.links.length q'.cl, .int .i64 c.queue] 0)).new (.row [.int .i64 0, .int .u32 14, .int .i64 10000, .int .i64 64] 0)) = some (.bool true, ((S2.new (.row [.int .i64 3, .int .i64 c.cycle, .int .i64 c.delay, .int .i64 c.window, .int .i64 c.prec, .slice q'.ad c.delays.length q'.cd, .slice q'.ae c.entries.length q'.ce, .slice q'.al c.links.length q'.cl, .int .i64 c.queue] 0)).new (.row [.int .i64 0, .int .u32 14, .int .i64 10000, .int .i64 64] 0))) := by
    have h := (Equal_eq g4 c c _ _ (h1'.low w4) (h1'.low w4)).trans (by rw [v3])
    skip
    exact h
  have k3 : cw W 25 #[(.agg #[.int .i64 c.hosts, .int .i64 c.cycle, .int .i64 c.delay, .int .i64 c.window, .int .i64 c.prec, .slice ad c.delays.length cd, .slice (some ⟨be, oe, none⟩) c.entries.length ce0, .slice al c.links.length cl, .int .i64 c.queue]), (.agg #[.int .i64 3, .int .i64 c.cycle, .int .i64 c.delay, .int .i64 c.window, .int .i64 c.prec, .slice q'.ad c.delays.length q'.cd, .slice q'.ae c.entries.length q'.ce, .slice q'.al c.links.length q'.cl, .int .i64 c.queue])] ((S2.new (.row [.int .i64 3, .int .i64 c.cycle, .int .i64 c.delay, .int .i64 c.window, .int .i64 c.prec, .slice q'.ad c.delays.length q'.cd, .slice q'.ae c.entries.length q'.ce, .slice q'.al c.links.length q'.cl, .int .i64 c.queue] 0)).new (.row [.int .i64 0, .int .u32 14, .int .i64 10000, .int .i64 64] 0)) = some (.bool false, ((S2.new (.row [.int .i64 3, .int .i64 c.cycle, .int .i64 c.delay, .int .i64 c.window, .int .i64 c.prec, .slice q'.ad c.delays.length q'.cd, .slice q'.ae c.entries.length q'.ce, .slice q'.al c.links.length q'.cl, .int .i64 c.queue] 0)).new (.row [.int .i64 0, .int .u32 14, .int .i64 10000, .int .i64 64] 0))) := by
    have h := (Equal_eq g4 c d43 _ q' (h1'.low w4) (h2d.low w4)).trans (by rw [v4])
    rw [hBd] at h
    exact h
  have k4 : cw W 16 #[(.agg #[.int .i64 c.hosts, .int .i64 c.cycle, .int .i64 c.delay, .int .i64 c.window, .int .i64 c.prec, .slice ad c.delays.length cd, .slice (some ⟨be, oe, none⟩) c.entries.length ce0, .slice al c.links.length cl, .int .i64 c.queue]), (.agg #[.int .i64 0, .int .u32 14, .int .i64 10000, .int .i64 64])] ((S2.new (.row [.int .i64 3, .int .i64 c.cycle, .int .i64 c.delay, .int .i64 c.window, .int .i64 c.prec, .slice q'.ad c.delays.length q'.cd, .slice q'.ae c.entries.length q'.ce, .slice q'.al c.links.length q'.cl, .int .i64 c.queue] 0)).new (.row [.int .i64 0, .int .u32 14, .int .i64 10000, .int .i64 64] 0)) = some (i64 13512, ((S2.new (.row [.int .i64 3, .int .i64 c.cycle, .int .i64 c.delay, .int .i64 c.window, .int .i64 c.prec, .slice q'.ad c.delays.length q'.cd, .slice q'.ae c.entries.length q'.ce, .slice q'.al c.links.length q'.cl, .int .i64 c.queue] 0)).new (.row [.int .i64 0, .int .u32 14, .int .i64 10000, .int .i64 64] 0))) := by
    have h := (Forward_eq g4 c _ (h1'.low w4).vlt e43 (by decide)).trans (by rw [v5])
    skip
    exact h
  have k5 : cw W 17 #[(.agg #[.int .i64 c.hosts, .int .i64 c.cycle, .int .i64 c.delay, .int .i64 c.window, .int .i64 c.prec, .slice ad c.delays.length cd, .slice (some ⟨be, oe, none⟩) c.entries.length ce0, .slice al c.links.length cl, .int .i64 c.queue]), (.agg #[.int .i64 0, .int .u32 14, .int .i64 10000, .int .i64 64])] ((S2.new (.row [.int .i64 3, .int .i64 c.cycle, .int .i64 c.delay, .int .i64 c.window, .int .i64 c.prec, .slice q'.ad c.delays.length q'.cd, .slice q'.ae c.entries.length q'.ce, .slice q'.al c.links.length q'.cl, .int .i64 c.queue] 0)).new (.row [.int .i64 0, .int .u32 14, .int .i64 10000, .int .i64 64] 0)) = some (i64 13524, ((S2.new (.row [.int .i64 3, .int .i64 c.cycle, .int .i64 c.delay, .int .i64 c.window, .int .i64 c.prec, .slice q'.ad c.delays.length q'.cd, .slice q'.ae c.entries.length q'.ce, .slice q'.al c.links.length q'.cl, .int .i64 c.queue] 0)).new (.row [.int .i64 0, .int .u32 14, .int .i64 10000, .int .i64 64] 0))) := by
    have h := (Early_eq g4 c _ (h1'.low w4).vlt e43 (by decide)).trans (by rw [v6])
    skip
    exact h
  have k6 : cw W 18 #[(.agg #[.int .i64 c.hosts, .int .i64 c.cycle, .int .i64 c.delay, .int .i64 c.window, .int .i64 c.prec, .slice ad c.delays.length cd, .slice (some ⟨be, oe, none⟩) c.entries.length ce0, .slice al c.links.length cl, .int .i64 c.queue]), (.agg #[.int .i64 0, .int .u32 14, .int .i64 10000, .int .i64 64])] ((S2.new (.row [.int .i64 3, .int .i64 c.cycle, .int .i64 c.delay, .int .i64 c.window, .int .i64 c.prec, .slice q'.ad c.delays.length q'.cd, .slice q'.ae c.entries.length q'.ce, .slice q'.al c.links.length q'.cl, .int .i64 c.queue] 0)).new (.row [.int .i64 0, .int .u32 14, .int .i64 10000, .int .i64 64] 0)) = some (i64 16524, ((S2.new (.row [.int .i64 3, .int .i64 c.cycle, .int .i64 c.delay, .int .i64 c.window, .int .i64 c.prec, .slice q'.ad c.delays.length q'.cd, .slice q'.ae c.entries.length q'.ce, .slice q'.al c.links.length q'.cl, .int .i64 c.queue] 0)).new (.row [.int .i64 0, .int .u32 14, .int .i64 10000, .int .i64 64] 0))) := by
    have h := (Late_eq g4 c _ (h1'.low w4).vlt e43 (by decide)).trans (by rw [v7])
    skip
    exact h
  have k7 : cw W 19 #[(.agg #[.int .i64 c.hosts, .int .i64 c.cycle, .int .i64 c.delay, .int .i64 c.window, .int .i64 c.prec, .slice ad c.delays.length cd, .slice (some ⟨be, oe, none⟩) c.entries.length ce0, .slice al c.links.length cl, .int .i64 c.queue])] ((S2.new (.row [.int .i64 3, .int .i64 c.cycle, .int .i64 c.delay, .int .i64 c.window, .int .i64 c.prec, .slice q'.ad c.delays.length q'.cd, .slice q'.ae c.entries.length q'.ce, .slice q'.al c.links.length q'.cl, .int .i64 c.queue] 0)).new (.row [.int .i64 0, .int .u32 14, .int .i64 10000, .int .i64 64] 0)) = some (i64 7000, ((S2.new (.row [.int .i64 3, .int .i64 c.cycle, .int .i64 c.delay, .int .i64 c.window, .int .i64 c.prec, .slice q'.ad c.delays.length q'.cd, .slice q'.ae c.entries.length q'.ce, .slice q'.al c.links.length q'.cl, .int .i64 c.queue] 0)).new (.row [.int .i64 0, .int .u32 14, .int .i64 10000, .int .i64 64] 0))) := by
    have h := (Quiet_eq g4 c _ (h1'.low w4).vlt).trans (by rw [v8])
    skip
    exact h
  have k8 : cw W 15 #[(.agg #[.int .i64 c.hosts, .int .i64 c.cycle, .int .i64 c.delay, .int .i64 c.window, .int .i64 c.prec, .slice ad c.delays.length cd, .slice (some ⟨be, oe, none⟩) c.entries.length ce0, .slice al c.links.length cl, .int .i64 c.queue]), (.agg #[.int .i64 0, .int .u32 14, .int .i64 10000, .int .i64 64])] ((S2.new (.row [.int .i64 3, .int .i64 c.cycle, .int .i64 c.delay, .int .i64 c.window, .int .i64 c.prec, .slice q'.ad c.delays.length q'.cd, .slice q'.ae c.entries.length q'.ce, .slice q'.al c.links.length q'.cl, .int .i64 c.queue] 0)).new (.row [.int .i64 0, .int .u32 14, .int .i64 10000, .int .i64 64] 0)) = some (.tuple #[i64 10012, i64 13012], ((S2.new (.row [.int .i64 3, .int .i64 c.cycle, .int .i64 c.delay, .int .i64 c.window, .int .i64 c.prec, .slice q'.ad c.delays.length q'.cd, .slice q'.ae c.entries.length q'.ce, .slice q'.al c.links.length q'.cl, .int .i64 c.queue] 0)).new (.row [.int .i64 0, .int .u32 14, .int .i64 10000, .int .i64 64] 0))) := by
    have h := (At_eq g4 c _ (h1'.low w4).vlt e43 (by decide)).trans (by rw [v9, v10])
    skip
    exact h
  have hx0 : (0 : Int) < (c.entries.length : Int) := by omega
  simp -implicitDefEqProofs (maxSteps := 1000000) (disch := (refine id ?_; first | with_reducible assumption | (with_reducible refine IsT.left ?_; with_reducible assumption) | (with_reducible refine IsT.left (IsT.left ?_); with_reducible assumption) | ((first | with_reducible refine nat_lt_id ?_ | with_reducible refine nat_le_id ?_ | with_reducible refine nat_ne_id ?_); (first | (simp +arith only [new_c, new_lock, upd_c, upd_lock, relock_c, relock_lock]; done) | (simp only [new_c, new_lock, upd_c, upd_lock, relock_c, relock_lock]; with_reducible assumption) | (refine Nat.le_trans hN ?_; simp +arith only [new_c, new_lock, upd_c, upd_lock, relock_c, relock_lock]; done) | (refine Nat.le_trans hL ?_; simp +arith only [new_c, new_lock, upd_c, upd_lock, relock_c, relock_lock]; done) | (apply Nat.lt_of_lt_of_le; with_reducible assumption; simp +arith only [new_c, new_lock, upd_c, upd_lock, relock_c, relock_lock]; done) | (apply Nat.ne_of_lt; apply Nat.lt_of_lt_of_le; with_reducible assumption; simp +arith only [new_c, new_lock, upd_c, upd_lock, relock_c, relock_lock]; done) | fail)) | ((fail_if_success (with_reducible apply isT_of)); (fail_if_success (first | with_reducible refine nat_lt_id ?_ | with_reducible refine nat_le_id ?_ | with_reducible refine nat_ne_id ?_)); first | (simp +arith only [new_c, new_lock, upd_c, upd_lock, relock_c, relock_lock]; done) | (refine Nat.le_trans hN ?_; simp +arith only [new_c, new_lock, upd_c, upd_lock, relock_c, relock_lock]; done) | (refine Nat.le_trans hL ?_; simp +arith only [new_c, new_lock, upd_c, upd_lock, relock_c, relock_lock]; done) | omega | (with_reducible apply Gd.cl; with_reducible assumption) | (simp only [new_c, new_lock, upd_c, upd_lock, relock_c, relock_lock] <;> omega) | with_reducible exact Low.rfl' _ | (with_reducible refine Low.new ?_ _; (repeat (first | with_reducible exact Low.rfl' _ | with_reducible assumption | refine Low.new ?_ _ | refine Low.upd ?_ (by (first | omega | (simp only [new_c, upd_c, relock_c] <;> omega))) _)); done) | (with_reducible refine Low.upd ?_ (by (first | omega | (simp only [new_c, upd_c, relock_c] <;> omega))) _; (repeat (first | with_reducible exact Low.rfl' _ | with_reducible assumption | refine Low.new ?_ _ | refine Low.upd ?_ (by (first | omega | (simp only [new_c, upd_c, relock_c] <;> omega))) _)); done) | (with_reducible refine Gd.new ?_ (by (simp only [objLt_row, objLt_dead, List.all_cons, List.all_nil, vlt1_int, vlt1_bool, vlt1_string, vlt1_nilp, vlt1_nils, vlt1_ptr, vlt1_sl, vlt1_func, vlt0_ptr, vlt0_sl, vlt0_int, vlt0_bool, vlt0_string, vlt0_nilp, vlt0_nils, vlt_int, vlt_bool, vlt_string, vlt_nilp, vlt_nils, vlt_ptr, vlt_sl, vlt_agg, vlt_func, List.toArray, Bool.and_true, Bool.true_and, Bool.and_self, Bool.and_eq_true, decide_eq_true_eq, and_true, true_and, new_c, upd_c, relock_c] <;> omega)); (repeat (first | with_reducible assumption | refine Gd.new ?_ (by (simp only [objLt_row, objLt_dead, List.all_cons, List.all_nil, vlt1_int, vlt1_bool, vlt1_string, vlt1_nilp, vlt1_nils, vlt1_ptr, vlt1_sl, vlt1_func, vlt0_ptr, vlt0_sl, vlt0_int, vlt0_bool, vlt0_string, vlt0_nilp, vlt0_nils, vlt_int, vlt_bool, vlt_string, vlt_nilp, vlt_nils, vlt_ptr, vlt_sl, vlt_agg, vlt_func, List.toArray, Bool.and_true, Bool.true_and, Bool.and_self, Bool.and_eq_true, decide_eq_true_eq, and_true, true_and, new_c, upd_c, relock_c] <;> omega)) | refine Gd.upd ?_ (by (first | omega | (simp only [new_c, upd_c, relock_c] <;> omega))) (by (simp only [objLt_row, objLt_dead, List.all_cons, List.all_nil, vlt1_int, vlt1_bool, vlt1_string, vlt1_nilp, vlt1_nils, vlt1_ptr, vlt1_sl, vlt1_func, vlt0_ptr, vlt0_sl, vlt0_int, vlt0_bool, vlt0_string, vlt0_nilp, vlt0_nils, vlt_int, vlt_bool, vlt_string, vlt_nilp, vlt_nils, vlt_ptr, vlt_sl, vlt_agg, vlt_func, List.toArray, Bool.and_true, Bool.true_and, Bool.and_self, Bool.and_eq_true, decide_eq_true_eq, and_true, true_and, new_c, upd_c, relock_c] <;> omega)) | refine Gd.relock ?_)); done) | (with_reducible refine Gd.upd ?_ (by (first | omega | (simp only [new_c, upd_c, relock_c] <;> omega))) (by (simp only [objLt_row, objLt_dead, List.all_cons, List.all_nil, vlt1_int, vlt1_bool, vlt1_string, vlt1_nilp, vlt1_nils, vlt1_ptr, vlt1_sl, vlt1_func, vlt0_ptr, vlt0_sl, vlt0_int, vlt0_bool, vlt0_string, vlt0_nilp, vlt0_nils, vlt_int, vlt_bool, vlt_string, vlt_nilp, vlt_nils, vlt_ptr, vlt_sl, vlt_agg, vlt_func, List.toArray, Bool.and_true, Bool.true_and, Bool.and_self, Bool.and_eq_true, decide_eq_true_eq, and_true, true_and, new_c, upd_c, relock_c] <;> omega)); (repeat (first | with_reducible assumption | refine Gd.new ?_ (by (simp only [objLt_row, objLt_dead, List.all_cons, List.all_nil, vlt1_int, vlt1_bool, vlt1_string, vlt1_nilp, vlt1_nils, vlt1_ptr, vlt1_sl, vlt1_func, vlt0_ptr, vlt0_sl, vlt0_int, vlt0_bool, vlt0_string, vlt0_nilp, vlt0_nils, vlt_int, vlt_bool, vlt_string, vlt_nilp, vlt_nils, vlt_ptr, vlt_sl, vlt_agg, vlt_func, List.toArray, Bool.and_true, Bool.true_and, Bool.and_self, Bool.and_eq_true, decide_eq_true_eq, and_true, true_and, new_c, upd_c, relock_c] <;> omega)) | refine Gd.upd ?_ (by (first | omega | (simp only [new_c, upd_c, relock_c] <;> omega))) (by (simp only [objLt_row, objLt_dead, List.all_cons, List.all_nil, vlt1_int, vlt1_bool, vlt1_string, vlt1_nilp, vlt1_nils, vlt1_ptr, vlt1_sl, vlt1_func, vlt0_ptr, vlt0_sl, vlt0_int, vlt0_bool, vlt0_string, vlt0_nilp, vlt0_nils, vlt_int, vlt_bool, vlt_string, vlt_nilp, vlt_nils, vlt_ptr, vlt_sl, vlt_agg, vlt_func, List.toArray, Bool.and_true, Bool.true_and, Bool.and_self, Bool.and_eq_true, decide_eq_true_eq, and_true, true_and, new_c, upd_c, relock_c] <;> omega)) | refine Gd.relock ?_)); done) | (with_reducible refine Gd.relock2 ?_ ?_; rotate_left; simp only [new_c, upd_c, relock_c]; (repeat (first | with_reducible assumption | refine Gd.new ?_ (by (simp only [objLt_row, objLt_dead, List.all_cons, List.all_nil, vlt1_int, vlt1_bool, vlt1_string, vlt1_nilp, vlt1_nils, vlt1_ptr, vlt1_sl, vlt1_func, vlt0_ptr, vlt0_sl, vlt0_int, vlt0_bool, vlt0_string, vlt0_nilp, vlt0_nils, vlt_int, vlt_bool, vlt_string, vlt_nilp, vlt_nils, vlt_ptr, vlt_sl, vlt_agg, vlt_func, List.toArray, Bool.and_true, Bool.true_and, Bool.and_self, Bool.and_eq_true, decide_eq_true_eq, and_true, true_and, new_c, upd_c, relock_c] <;> omega)) | refine Gd.upd ?_ (by (first | omega | (simp only [new_c, upd_c, relock_c] <;> omega))) (by (simp only [objLt_row, objLt_dead, List.all_cons, List.all_nil, vlt1_int, vlt1_bool, vlt1_string, vlt1_nilp, vlt1_nils, vlt1_ptr, vlt1_sl, vlt1_func, vlt0_ptr, vlt0_sl, vlt0_int, vlt0_bool, vlt0_string, vlt0_nilp, vlt0_nils, vlt_int, vlt_bool, vlt_string, vlt_nilp, vlt_nils, vlt_ptr, vlt_sl, vlt_agg, vlt_func, List.toArray, Bool.and_true, Bool.true_and, Bool.and_self, Bool.and_eq_true, decide_eq_true_eq, and_true, true_and, new_c, upd_c, relock_c] <;> omega)) | refine Gd.relock ?_)); done) | (with_reducible refine nat_eq_id ?_; first | with_reducible rfl | (simp only [new_lock, upd_lock, relock_lock, new_c, upd_c, relock_c]; done)) | (simp (disch := (simp only [new_c, upd_c, relock_c] <;> omega)) only [new_at, new_lo, upd_self, upd_lo, relock_heap]; done) | (with_reducible refine Rd.low (by with_reducible assumption) ?_; (repeat (first | with_reducible exact Low.rfl' _ | with_reducible assumption | refine Low.new ?_ _ | refine Low.upd ?_ (by (first | omega | (simp only [new_c, upd_c, relock_c] <;> omega))) _)); done) | (simp only [flatR_int, flatR_bool, flatR_string, flatR_tuple, flatR_agg, flat_int, flat_bool, flat_string, flat_agg, flat0_int, flat0_bool, flat0_string, List.all_cons, List.all_nil, Bool.and_self, Bool.and_true, Bool.true_and]; done) | ((first | with_reducible refine int_lt_id ?_ | with_reducible refine int_le_id ?_); simp only [IsT, decide_eq_true_eq, Bool.and_eq_true, Bool.or_eq_true, Bool.not_eq_true', decide_eq_false_iff_not] at *; omega) | (simp only [objLt_row, objLt_dead, List.all_cons, List.all_nil, vlt1_int, vlt1_bool, vlt1_string, vlt1_nilp, vlt1_nils, vlt1_ptr, vlt1_sl, vlt1_func, vlt0_ptr, vlt0_sl, vlt0_int, vlt0_bool, vlt0_string, vlt0_nilp, vlt0_nils, vlt_int, vlt_bool, vlt_string, vlt_nilp, vlt_nils, vlt_ptr, vlt_sl, vlt_agg, vlt_func, List.toArray, Bool.and_true, Bool.true_and, Bool.and_self, Bool.and_eq_true, decide_eq_true_eq, and_true, true_and, new_c, upd_c, relock_c]; (try omega); done) | fail))) only [hb1, hb4, hx0, e5, k1, k2, k3, k4, k5, k6, k7, k8, ↓bindV_some, ↓bindS_some, ↓bindT_some, ↓condB_false, wV_true, ↓wO_true, ↓wS_true, bindV_some, bindS_some, bindT_some, ↓gV_t, ↓gV_f, ↓condK_B, wO_true, wS_true, wV_pos, wO_val, wS_val, pick_bool, bin_eql, bin_neq, un_not, ex_nth, cell_at, cells_at, put_cons, cellOf_row, cellsOf_row, putOf_row, nth_zero, nth_succ, aggOf_some, new_self, eq_self, new_upd, new_at, new_lo, new_c, splice_nil, splice_cons, decide_true, and_self, Bool.not_true, Bool.not_false, Nat.zero_add, Nat.add_zero, List.length_cons, List.length_nil, List.drop_zero, List.take_succ_cons, List.take_zero, List.set_cons_zero, List.set_cons_succ, List.all_cons, List.all_nil, storable_int, storable_slice, Bool.and_self, Nat.reduceAdd, Nat.reduceSub, Nat.reduceMul, Nat.reduceLeDiff, Nat.reduceLT, Nat.reduceEqDiff, Int.reduceLE, Int.reduceLT, Int.reduceAdd, Int.reduceNeg, Int.reduceEq, Int.reduceSub, Int.reduceMul, Int.reduceToNat, Int.toNat_zero, Nat.zero_mul, ↓reduceIte, Nat.le_refl, reduceCtorEq, call_11, call_15, call_16, call_17, call_18, call_19, call_22, call_25, call_26, st_3, ld_22, len_22, ld_23, len_23, ix_23, fa_26_0, fa_26_5, fa_26_6, ld_26, st_26, ld_32, st_32, al_26, al_32]
  exact Wp.leaf rfl (((w1.trans wB).trans w2).trans w4)
end
end Go.Proofs.Ytogcdgdnjinjkaa.F
end
section
namespace Go.Proofs.Ytogcdgdnjinjkaa.F
open Go Go.RowKit Go.Deep Go.ChangeShapes Go.WideShapes Go.Proofs.Ytogcdgdnjinjkaa.E
set_option linter.unusedVariables false
set_option linter.unusedSimpArgs false
def i64R (x : Int) : Prop := -9223372036854775808 ≤ x ∧ x < 9223372036854775808
structure CfgR (c : Cfg) : Prop where
  hosts : i64R c.hosts
  cycle : i64R c.cycle
  delay : i64R c.delay
  window : i64R c.window
  prec : i64R c.prec
  queue : i64R c.queue
  ent : ∀ e ∈ c.entries, i64R e.f ∧ i64R e.ph ∧ i64R e.sz
  lnk : ∀ e ∈ c.links, i64R e.f ∧ i64R e.gap ∧ i64R e.sz
  del : ∀ l ∈ c.delays, ∀ n ∈ l, i64R n
def rN (e : En) : Prop := e.t < 4294967296 ∧ i64R e.f ∧ i64R e.ph ∧ i64R e.sz
def rK (e : Lk) : Prop := e.t < 4294967296 ∧ i64R e.f ∧ i64R e.gap ∧ i64R e.sz
theorem rf_N : Rf Try.prog 32 NT.cs rN := by
  intro H enc w base spare held fuel cs y h hw
  obtain ⟨hl, n, hf⟩ := E.rd_struct Try.underlying32 h hw
  have hl' : cs.length = 4 := hl.trans (by kernel_rfl)
  clear hl
  match cs, hl' with
  | [c0, c1, c2, c3], _ =>
    obtain ⟨z0, hz0, hw0⟩ := hf 0 _ rfl
    have e0 : ((([c0, c1, c2, c3] : List Value).drop 0).take (Try.prog.cellsOf 3)) = [c0] := by rw [show Try.prog.cellsOf 3 = 1 from by kernel_rfl]; rfl
    obtain ⟨x0, h0, wf0⟩ := (show Rf Try.prog 3 _ _ from Rf.int Try.underlying3) enc w base spare held n _ z0 hz0 hw0
    have g0 := e0.symm.trans h0
    simp only [List.cons.injEq, and_true] at g0
    obtain ⟨z1, hz1, hw1⟩ := hf 1 _ rfl
    have e1 : ((([c0, c1, c2, c3] : List Value).drop 1).take (Try.prog.cellsOf 30)) = [c1] := by rw [show Try.prog.cellsOf 30 = 1 from by kernel_rfl]; rfl
    obtain ⟨x1, h1, wf1⟩ := (show Rf Try.prog 30 _ _ from Rf.int Try.underlying30) enc w base spare held n _ z1 hz1 hw1
    have g1 := e1.symm.trans h1
    simp only [List.cons.injEq, and_true] at g1
    obtain ⟨z2, hz2, hw2⟩ := hf 2 _ rfl
    have e2 : ((([c0, c1, c2, c3] : List Value).drop 2).take (Try.prog.cellsOf 2)) = [c2] := by rw [show Try.prog.cellsOf 2 = 1 from by kernel_rfl]; rfl
    obtain ⟨x2, h2, wf2⟩ := (show Rf Try.prog 2 _ _ from Rf.int Try.underlying2) enc w base spare held n _ z2 hz2 hw2
    have g2 := e2.symm.trans h2
    simp only [List.cons.injEq, and_true] at g2
    obtain ⟨z3, hz3, hw3⟩ := hf 3 _ rfl
    have e3 : ((([c0, c1, c2, c3] : List Value).drop 3).take (Try.prog.cellsOf 3)) = [c3] := by rw [show Try.prog.cellsOf 3 = 1 from by kernel_rfl]; rfl
    obtain ⟨x3, h3, wf3⟩ := (show Rf Try.prog 3 _ _ from Rf.int Try.underlying3) enc w base spare held n _ z3 hz3 hw3
    have g3 := e3.symm.trans h3
    simp only [List.cons.injEq, and_true] at g3
    subst g0 g1 g2 g3
    obtain ⟨c, rfl⟩ := u32_nat wf1
    exact ⟨⟨x0, c.1, x2, x3⟩, rfl, c.2, i64_rng wf0, i64_rng wf2, i64_rng wf3⟩
theorem rf_K : Rf Try.prog 47 KT.cs rK := by
  intro H enc w base spare held fuel cs y h hw
  obtain ⟨hl, n, hf⟩ := E.rd_struct Try.underlying47 h hw
  have hl' : cs.length = 4 := hl.trans (by kernel_rfl)
  clear hl
  match cs, hl' with
  | [c0, c1, c2, c3], _ =>
    obtain ⟨z0, hz0, hw0⟩ := hf 0 _ rfl
    have e0 : ((([c0, c1, c2, c3] : List Value).drop 0).take (Try.prog.cellsOf 3)) = [c0] := by rw [show Try.prog.cellsOf 3 = 1 from by kernel_rfl]; rfl
    obtain ⟨x0, h0, wf0⟩ := (show Rf Try.prog 3 _ _ from Rf.int Try.underlying3) enc w base spare held n _ z0 hz0 hw0
    have g0 := e0.symm.trans h0
    simp only [List.cons.injEq, and_true] at g0
    obtain ⟨z1, hz1, hw1⟩ := hf 1 _ rfl
    have e1 : ((([c0, c1, c2, c3] : List Value).drop 1).take (Try.prog.cellsOf 30)) = [c1] := by rw [show Try.prog.cellsOf 30 = 1 from by kernel_rfl]; rfl
    obtain ⟨x1, h1, wf1⟩ := (show Rf Try.prog 30 _ _ from Rf.int Try.underlying30) enc w base spare held n _ z1 hz1 hw1
    have g1 := e1.symm.trans h1
    simp only [List.cons.injEq, and_true] at g1
    obtain ⟨z2, hz2, hw2⟩ := hf 2 _ rfl
    have e2 : ((([c0, c1, c2, c3] : List Value).drop 2).take (Try.prog.cellsOf 2)) = [c2] := by rw [show Try.prog.cellsOf 2 = 1 from by kernel_rfl]; rfl
    obtain ⟨x2, h2, wf2⟩ := (show Rf Try.prog 2 _ _ from Rf.int Try.underlying2) enc w base spare held n _ z2 hz2 hw2
    have g2 := e2.symm.trans h2
    simp only [List.cons.injEq, and_true] at g2
    obtain ⟨z3, hz3, hw3⟩ := hf 3 _ rfl
    have e3 : ((([c0, c1, c2, c3] : List Value).drop 3).take (Try.prog.cellsOf 3)) = [c3] := by rw [show Try.prog.cellsOf 3 = 1 from by kernel_rfl]; rfl
    obtain ⟨x3, h3, wf3⟩ := (show Rf Try.prog 3 _ _ from Rf.int Try.underlying3) enc w base spare held n _ z3 hz3 hw3
    have g3 := e3.symm.trans h3
    simp only [List.cons.injEq, and_true] at g3
    subst g0 g1 g2 g3
    obtain ⟨c, rfl⟩ := u32_nat wf1
    exact ⟨⟨x0, c.1, x2, x3⟩, rfl, c.2, i64_rng wf0, i64_rng wf2, i64_rng wf3⟩
theorem okCell_slice {P : Program} {t e : TypeId} (ht : P.underlying t = some (.slice e)) {w : World} {base : Nat} {v : Value} (hv : Cell.okWide P w .any base t v) : ∀ (a : Addr) (l c : Nat), v = .slice (some a) l c → a.spot = none ∧ a.block < w.heap.size := by
  rintro a l c rfl
  unfold Cell.okWide at hv
  rw [ht] at hv
  dsimp only at hv
  unfold Cell.ok at hv
  rw [ht] at hv
  obtain ⟨_, _, _, hs, row, cells, hsh, _⟩ := hv
  refine ⟨hs, ?_⟩
  unfold World.shape? at hsh
  by_cases hlt : a.block < w.heap.size
  · exact hlt
  · rw [Array.getElem?_eq_none (by omega)] at hsh
    simp at hsh
theorem oldV_slice {w : World} {v : Value} {a : Option Addr} {n c : Nat} (e : v = .slice a n c) (h : ∀ (a : Addr) (l c : Nat), v = .slice (some a) l c → a.spot = none ∧ a.block < w.heap.size) : oldV w v = true := by
  subst e
  cases a with
  | none => rfl
  | some a => exact decide_eq_true (h a n c rfl).2
theorem old_cfg {H : Type} {enc : TypeId × Value → H} {w : World} {base base' : Nat} {held : Bool} {fuel : Nat} {cs : List Value} {y : DataW H × List MemPlace}
    (h : DataW.trod enc Try.prog w base (fun _ => true) held fuel 26 cs = some y) (hw : ∀ n ∈ y.1.weights Try.prog 26, n ≤ reachBytes) (hv : Value.okWide Try.prog w .any base' 26 (.agg cs.toArray)) :
    ∃ (c : Cfg) (q : Pl), cs = ccs c q ∧ CfgB c ∧ CfgR c ∧ (∀ S, Gd w S → w.heap.size < S.c → CfgAt w S c q) ∧ cs.all (oldV w) = true := by
  obtain ⟨hl, n, hf⟩ := E.rd_struct Try.underlying26 h hw
  have hl' : cs.length = 9 := hl.trans (by kernel_rfl)
  clear hl
  unfold Value.okWide at hv
  rw [Try.underlying26] at hv
  obtain ⟨cs', e, hsz, ts, hts, _, hcell⟩ := hv
  injection e with e
  subst e
  have ets : ts = [3, 2, 2, 2, 2, 22, 23, 24, 3] := Option.some.inj (hts.symm.trans (show Try.prog.cellTypes Try.prog.depth 26 = some [3, 2, 2, 2, 2, 22, 23, 24, 3] by kernel_rfl))
  subst ets
  match cs, hl' with
  | [x0, x1, x2, x3, x4, x5, x6, x7, x8], _ =>
    obtain ⟨z0, hz0, hw0⟩ := hf 0 _ rfl
    have e0 : ((([x0, x1, x2, x3, x4, x5, x6, x7, x8] : List Value).drop 0).take (Try.prog.cellsOf 3)) = [x0] := by rw [show Try.prog.cellsOf 3 = 1 from by kernel_rfl]; rfl
    obtain ⟨n0, h0, wf0⟩ := (show Rf Try.prog 3 _ _ from Rf.int Try.underlying3) enc w base (fun _ => true) held n _ z0 hz0 hw0
    have g0 := e0.symm.trans h0
    simp only [List.cons.injEq, and_true] at g0
    obtain ⟨z1, hz1, hw1⟩ := hf 1 _ rfl
    have e1 : ((([x0, x1, x2, x3, x4, x5, x6, x7, x8] : List Value).drop 1).take (Try.prog.cellsOf 2)) = [x1] := by rw [show Try.prog.cellsOf 2 = 1 from by kernel_rfl]; rfl
    obtain ⟨n1, h1, wf1⟩ := (show Rf Try.prog 2 _ _ from Rf.int Try.underlying2) enc w base (fun _ => true) held n _ z1 hz1 hw1
    have g1 := e1.symm.trans h1
    simp only [List.cons.injEq, and_true] at g1
    obtain ⟨z2, hz2, hw2⟩ := hf 2 _ rfl
    have e2 : ((([x0, x1, x2, x3, x4, x5, x6, x7, x8] : List Value).drop 2).take (Try.prog.cellsOf 2)) = [x2] := by rw [show Try.prog.cellsOf 2 = 1 from by kernel_rfl]; rfl
    obtain ⟨n2, h2, wf2⟩ := (show Rf Try.prog 2 _ _ from Rf.int Try.underlying2) enc w base (fun _ => true) held n _ z2 hz2 hw2
    have g2 := e2.symm.trans h2
    simp only [List.cons.injEq, and_true] at g2
    obtain ⟨z3, hz3, hw3⟩ := hf 3 _ rfl
    have e3 : ((([x0, x1, x2, x3, x4, x5, x6, x7, x8] : List Value).drop 3).take (Try.prog.cellsOf 2)) = [x3] := by rw [show Try.prog.cellsOf 2 = 1 from by kernel_rfl]; rfl
    obtain ⟨n3, h3, wf3⟩ := (show Rf Try.prog 2 _ _ from Rf.int Try.underlying2) enc w base (fun _ => true) held n _ z3 hz3 hw3
    have g3 := e3.symm.trans h3
    simp only [List.cons.injEq, and_true] at g3
    obtain ⟨z4, hz4, hw4⟩ := hf 4 _ rfl
    have e4 : ((([x0, x1, x2, x3, x4, x5, x6, x7, x8] : List Value).drop 4).take (Try.prog.cellsOf 2)) = [x4] := by rw [show Try.prog.cellsOf 2 = 1 from by kernel_rfl]; rfl
    obtain ⟨n4, h4, wf4⟩ := (show Rf Try.prog 2 _ _ from Rf.int Try.underlying2) enc w base (fun _ => true) held n _ z4 hz4 hw4
    have g4 := e4.symm.trans h4
    simp only [List.cons.injEq, and_true] at g4
    obtain ⟨z5, hz5, hw5⟩ := hf 5 _ rfl
    have e5 : ((([x0, x1, x2, x3, x4, x5, x6, x7, x8] : List Value).drop 5).take (Try.prog.cellsOf 22)) = [x5] := by rw [show Try.prog.cellsOf 22 = 1 from by kernel_rfl]; rfl
    have hz5 : DataW.trod enc Try.prog w base (fun _ => true) held n 22 [x5] = some z5 := hz5
    have ok5 : ∀ (a : Addr) (l c : Nat), x5 = .slice (some a) l c → a.spot = none ∧ a.block < w.heap.size := by
      obtain ⟨u, hu, hc⟩ := hcell 5 x5 rfl
      obtain rfl : u = 22 := (Option.some.inj hu).symm
      exact okCell_slice Try.underlying22 hc
    obtain ⟨z6, hz6, hw6⟩ := hf 6 _ rfl
    have e6 : ((([x0, x1, x2, x3, x4, x5, x6, x7, x8] : List Value).drop 6).take (Try.prog.cellsOf 23)) = [x6] := by rw [show Try.prog.cellsOf 23 = 1 from by kernel_rfl]; rfl
    have hz6 : DataW.trod enc Try.prog w base (fun _ => true) held n 23 [x6] = some z6 := hz6
    have ok6 : ∀ (a : Addr) (l c : Nat), x6 = .slice (some a) l c → a.spot = none ∧ a.block < w.heap.size := by
      obtain ⟨u, hu, hc⟩ := hcell 6 x6 rfl
      obtain rfl : u = 23 := (Option.some.inj hu).symm
      exact okCell_slice Try.underlying23 hc
    obtain ⟨z7, hz7, hw7⟩ := hf 7 _ rfl
    have e7 : ((([x0, x1, x2, x3, x4, x5, x6, x7, x8] : List Value).drop 7).take (Try.prog.cellsOf 24)) = [x7] := by rw [show Try.prog.cellsOf 24 = 1 from by kernel_rfl]; rfl
    have hz7 : DataW.trod enc Try.prog w base (fun _ => true) held n 24 [x7] = some z7 := hz7
    have ok7 : ∀ (a : Addr) (l c : Nat), x7 = .slice (some a) l c → a.spot = none ∧ a.block < w.heap.size := by
      obtain ⟨u, hu, hc⟩ := hcell 7 x7 rfl
      obtain rfl : u = 24 := (Option.some.inj hu).symm
      exact okCell_slice Try.underlying24 hc
    obtain ⟨z8, hz8, hw8⟩ := hf 8 _ rfl
    have e8 : ((([x0, x1, x2, x3, x4, x5, x6, x7, x8] : List Value).drop 8).take (Try.prog.cellsOf 3)) = [x8] := by rw [show Try.prog.cellsOf 3 = 1 from by kernel_rfl]; rfl
    obtain ⟨n8, h8, wf8⟩ := (show Rf Try.prog 3 _ _ from Rf.int Try.underlying3) enc w base (fun _ => true) held n _ z8 hz8 hw8
    have g8 := e8.symm.trans h8
    simp only [List.cons.injEq, and_true] at g8
    subst g0 g1 g2 g3 g4 g8
    obtain ⟨le, oe, be, re⟩ := old_slice_at (T := NT) Try.underlying23 (by kernel_rfl) rf_N hz6 hw6 ok6
    obtain ⟨lk, ok, bk, rk⟩ := old_slice_at (T := KT) Try.underlying24 (by kernel_rfl) rf_K hz7 hw7 ok7
    obtain ⟨iv, bi, vi, ri⟩ := old_slices (T := IT) Try.underlying22 Try.underlying45 (by kernel_rfl) (by kernel_rfl) (Rf.int Try.underlying2) (fun _ => rfl) hz5 hw5 ok5
    obtain ⟨ae, ce, ee⟩ := oe.form
    obtain ⟨ak, ck, ek⟩ := ok.form
    obtain ⟨ad, cd, ed⟩ : ∃ a c, x5 = .slice a iv.length c := by
      rcases vi with ⟨e, e2⟩ | ⟨b, o, c, e, _⟩
      · exact ⟨none, 0, by rw [e, e2]; rfl⟩
      · exact ⟨_, c, e⟩
    have B32 : Try.prog.bytesOf 32 = 32 := by kernel_rfl
    have B47 : Try.prog.bytesOf 47 = 32 := by kernel_rfl
    have B45 : Try.prog.bytesOf 45 = 24 := by kernel_rfl
    have B2 : Try.prog.bytesOf 2 = 8 := by kernel_rfl
    rw [B32] at be
    rw [B47] at bk
    rw [B45] at bi
    rw [B2] at ri
    refine ⟨⟨n0, n1, n2, n3, n4, iv.map (·.l), le, lk, n8⟩, ⟨ad, cd, ae, ce, ak, ck⟩, ?_, ?_, ?_, fun S g hc => ?_, ?_⟩
    · show _ = [_, _, _, _, _, Value.slice ad (iv.map (·.l)).length cd, _, _, _]
      rw [List.length_map, ← ed, ee, ek]
    · refine ⟨?_, ?_, ?_, ?_, fun e he => (re e he).1, fun e he => (rk e he).1⟩
      · show (iv.map (·.l)).length * 24 ≤ _
        rw [List.length_map]; omega
      · intro l hl
        obtain ⟨s, hs, rfl⟩ := List.mem_map.1 hl
        have := (ri s hs).2.1
        omega
      · show le.length * 32 ≤ _
        omega
      · show lk.length * 32 ≤ _
        omega
    · refine ⟨i64_rng wf0, i64_rng wf1, i64_rng wf2, i64_rng wf3, i64_rng wf4, i64_rng wf8, fun e he => (re e he).2, fun e he => (rk e he).2, fun l hl m hm => ?_⟩
      obtain ⟨s, hs, rfl⟩ := List.mem_map.1 hl
      exact i64_rng ((ri s hs).2.2 m hm)
    · have rN' := oe.rd (fun _ => rfl) g
      have rK' := ok.rd (fun _ => rfl) g
      rw [ee] at rN'
      rw [ek] at rK'
      refine ⟨⟨iv.map fun s => ⟨s.a, s.n, s.c, s.l⟩, ?_, ?_, ?_⟩, rN', rK', ?_, ?_, ?_, ?_, fun e he => (re e he).1, fun e he => (rk e he).1⟩
      · show Rd VT w S (.slice ad (iv.map (·.l)).length cd) _
        rcases vi with ⟨e, e2⟩ | ⟨b, o, c, e, q1, q2, q3⟩
        · have : Value.slice ad iv.length cd = .slice none 0 0 := ed.symm.trans e
          subst e2
          exact this ▸ rd_nil
        · have eq := ed.symm.trans e
          injection eq with e1 _ e3
          subst e1 e3
          by_cases h0 : iv.length = 0
          · have h0' : iv = [] := List.eq_nil_of_length_eq_zero h0
            subst h0'
            exact ⟨by simpa using Nat.lt_trans q2 hc, .inl ⟨_, cd, rfl, rfl⟩⟩
          · refine ⟨by simpa using Nat.lt_trans q2 hc, .inr ⟨b, o, cd, by rw [List.length_map, List.length_map], by rw [List.length_map]; exact q1, by rw [List.length_map]; omega, Nat.lt_trans q2 hc, .inl (fx_old q2), fun _ => fx_old q2, fun j hj => ?_⟩⟩
            rw [List.length_map] at hj
            obtain ⟨u, c1, c2⟩ := q3 j hj
            have := old_cells1 (S := S) q2 c1 c2
            rw [List.getElem_map]
            refine ⟨by rw [show VT.k = 1 from rfl, Nat.mul_one]; exact this.1, fun i hi => ?_⟩
            have hi : i < 1 := hi
            obtain rfl : i = 0 := by omega
            rw [show VT.k = 1 from rfl, Nat.mul_one, Nat.add_zero]
            exact this.2
      · rw [List.map_map]; rfl
      · intro s hs
        obtain ⟨t, ht, rfl⟩ := List.mem_map.1 hs
        exact (ri t ht).1 S g hc
      · show (iv.map (·.l)).length ≤ _
        rw [List.length_map]; omega
      · intro l hl
        obtain ⟨s, hs, rfl⟩ := List.mem_map.1 hl
        have := (ri s hs).2.1
        omega
      · show le.length ≤ _
        omega
      · show lk.length ≤ _
        omega
    · have o5 := oldV_slice ed ok5
      have o6 := oldV_slice ee ok6
      have o7 := oldV_slice ek ok7
      simp only [List.all_cons, List.all_nil, o5, o6, o7, Bool.and_true]
      rfl
theorem u8_nat {x : Int} (h : (Lit.int .u8 x).wf = true) : ∃ c : {n : Nat // n < 256}, x = (c.1 : Int) := by
  have h' : 0 ≤ x ∧ x < 256 := by
    simp [Lit.wf, IntKind.min, IntKind.max, IntKind.signed, IntKind.bits] at h; omega
  exact ⟨⟨x.toNat, by omega⟩, by simp; omega⟩
theorem okWide_arr {P : Program} {w : World} {r : Reach} {base n : Nat} {t e : TypeId} {v : Value} (ht : P.underlying t = some (.array n e)) (h : Value.okWide P w r base t v) : ∃ cs, v = .agg cs ∧ cs.size = P.cellsOf t := by
  simp only [Value.okWide, ht] at h
  obtain ⟨cs, h1, h2, _⟩ := h
  exact ⟨cs, h1, h2⟩
theorem rd_a2 {H : Type} {enc : TypeId × Value → H} {w : World} {base : Nat} {spare : Nat → Bool} {held : Bool} {fuel : Nat} {cs : List Value} {y : DataW H × List MemPlace}
    (h : DataW.trod enc Try.prog w base spare held fuel 48 cs = some y) (hw : ∀ n ∈ y.1.weights Try.prog 48, n ≤ reachBytes) : ∃ a0 a1 : {n : Nat // n < 256}, cs = [.int .u8 (a0.1 : Int), .int .u8 (a1.1 : Int)] := by
  obtain ⟨xs, m, _, rfl, hl, hn, hx⟩ := DataW.trod_array Try.underlying48 h
  have hl' : cs.length = 2 := hl.trans (by kernel_rfl)
  have hc : Try.prog.cellsOf 5 = 1 := by kernel_rfl
  have hmem : ∀ i, (hi : i < xs.length) → ∀ n ∈ xs[i].1.weights Try.prog 5, n ≤ reachBytes := fun i hi n hn => by
    refine hw n ?_
    simp only [DataW.weights, Try.underlying48]
    exact weightsAll_mem (List.mem_map.2 ⟨xs[i], List.getElem_mem hi, rfl⟩) n hn
  match cs, hl' with
  | [c0, c1], _ =>
    have h0 := hx 0 (by omega)
    have h1 := hx 1 (by omega)
    rw [hc, List.getElem?_eq_getElem (by omega)] at h0 h1
    obtain ⟨n0, e0, w0⟩ := (show Rf Try.prog 5 _ _ from Rf.int Try.underlying5) enc w base spare held m _ _ h0 (hmem 0 (by omega))
    obtain ⟨n1, e1, w1⟩ := (show Rf Try.prog 5 _ _ from Rf.int Try.underlying5) enc w base spare held m _ _ h1 (hmem 1 (by omega))
    have e0 : [c0] = [Value.int .u8 n0] := e0
    have e1 : [c1] = [Value.int .u8 n1] := e1
    injection e0 with e0 _
    injection e1 with e1 _
    obtain ⟨a0, rfl⟩ := u8_nat w0
    obtain ⟨a1, rfl⟩ := u8_nat w1
    exact ⟨a0, a1, by rw [e0, e1]⟩
end Go.Proofs.Ytogcdgdnjinjkaa.F
end
section
namespace Go.Proofs.Ytogcdgdnjinjkaa.F
open Go Go.Proofs.Ytogcdgdnjinjkaa.E
set_option linter.unusedVariables false
set_option linter.unusedSimpArgs false
section
variable {W : World} {S : St}
theorem CfgAt.relock {c : Cfg} {q : Pl} (h : CfgAt W S c q) (k : Nat) : CfgAt W (S.relock k) c q := ⟨h.del, h.ent, h.lnk, h.ld, h.ldd, h.le, h.ll, h.et, h.lt⟩
theorem checks_law (g : Gd W S) (c : Cfg) (q : Pl) (h : CfgAt W S c q) (hB : CfgB c) (hR : CfgR c) : Wp (cw W 3 #[cvl c q] S) fun r => r.1 = .bool true := by
  rw [eq3]
  have hN := g.n; have hL : S.lock ≤ S.c := g.ok.1
  have hq := h.vlt
  have g1 := g.new (o := .row [Value.int .i64 c.hosts, .int .i64 c.cycle, .int .i64 c.delay, .int .i64 c.window, .int .i64 c.prec, .slice q.ad c.delays.length q.cd, .slice q.ae c.entries.length q.ce, .slice q.al c.links.length q.cl, .int .i64 c.queue] 0) (objLt_mono (Nat.le_succ _) (cvl_obj hq))
  have hq1 : vlt (S.c + 1) (cvl c q) = true := vlt_mono (by omega) hq
  have ha : [cvl c q].all (vlt S.c) = true := by rw [List.all_cons, hq]; rfl
  have h1 := h.low (Low.new (Low.rfl' S) (.row (ccs c q) 0))
  have e0 := fixed_eq g1
  have e1 : cw W 11 #[cvl c q] ((S.new (.row [Value.int .i64 c.hosts, .int .i64 c.cycle, .int .i64 c.delay, .int .i64 c.window, .int .i64 c.prec, .slice q.ad c.delays.length q.cd, .slice q.ae c.entries.length q.ce, .slice q.al c.links.length q.cl, .int .i64 c.queue] 0)).relock (S.c + 1)) = some (i64 (checkN c), (S.new (.row [Value.int .i64 c.hosts, .int .i64 c.cycle, .int .i64 c.delay, .int .i64 c.window, .int .i64 c.prec, .slice q.ad c.delays.length q.cd, .slice q.ae c.entries.length q.ce, .slice q.al c.links.length q.cl, .int .i64 c.queue] 0)).relock (S.c + 1)) := Check_eq g1.relock c q (h1.relock _)
  have e2 := RCheck_eq g1 c q h1
  simp -implicitDefEqProofs (maxSteps := 1000000) (disch := (refine id ?_; first | ((fail_if_success (with_reducible apply isT_of)); (fail_if_success (first | fail)); first | (simp +arith only [new_c, new_lock, upd_c, upd_lock, relock_c, relock_lock]; done) | omega | fail))) only [e0, e1, e2, ↓bindV_some, ↓bindS_some, ↓wO_true, ↓wS_true, bindV_some, bindS_some, ↓gV_t, wO_true, wS_true, pick_bool, bin_eql, box_agg, cells_at, cellsOf_row, aggOf_some, eq_self, new_at, new_c, new_lock, relock2, relock_id, qS_true, unlock_some, decide_true, Nat.zero_add, List.length_cons, List.length_nil, List.drop_zero, List.take_succ_cons, List.take_zero, Nat.reduceAdd, ↓reduceIte, Nat.le_refl, call_10, call_11, call_12, ld_26]
  exact ⟨_, rfl, rfl⟩
end
end Go.Proofs.Ytogcdgdnjinjkaa.F
end
