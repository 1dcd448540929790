/- What the functions of this chapter compute, in memories that are closed; conditions stand in each theorem. Laid together by a program for this claim. -/
import Derived.Test.YtogcdgdnjinjkaaQWalkA2
set_option linter.unusedVariables false
set_option linter.unusedSimpArgs false
section
namespace Go.Proofs.Ytogcdgdnjinjkaa.F
open Go Go.Proofs.Ytogcdgdnjinjkaa.E
set_option linter.unusedVariables false
set_option linter.unusedSimpArgs false
section
variable {W : World} {S : St}
theorem check_zero {c : Cfg} (h : checkN c = 0) : (1 ≤ c.hosts ∧ c.hosts ≤ 6) ∧ (1 ≤ c.cycle ∧ c.cycle ≤ 1073741824) ∧ c.spans = true ∧ rowsOk c = true ∧ scheduleN c = 0 ∧ c.links.length ≤ 16 ∧ c.links.any (badLink c) = false ∧ inB c.queue 1 64 = true := by
  unfold checkN at h
  split at h
  · omega
  split at h
  · omega
  split at h
  · omega
  split at h
  · omega
  split at h
  · contradiction
  split at h
  · omega
  split at h
  · omega
  split at h
  · omega
  rename_i h1 h2 h3 h4 h5 h6 h7 h8
  simp only [Bool.not_eq_false, inB, decide_eq_true_eq] at h1 h2
  exact ⟨h1, h2, by simpa using h3, by simpa using h4, by simpa using h5, by omega, by simpa using h7, by simpa using h8⟩
theorem rows_two {c : Cfg} (h : rowsOk c = true) : (c.delays.length : Int) = c.hosts ∧ ∀ l ∈ c.delays, l.length = 2 ∧ ∀ n ∈ l, 0 ≤ n ∧ n ≤ c.delay := by
  unfold rowsOk at h
  simp only [Bool.and_eq_true, decide_eq_true_eq, Bool.not_eq_true', List.any_eq_false] at h
  refine ⟨h.1, fun l hl => ?_⟩
  have := h.2 l hl
  simp only [rowBad, Bool.or_eq_true, decide_eq_true_eq, not_or, List.any_eq_true, not_exists, not_and, inB, Bool.not_eq_true', decide_eq_false_iff_not, Classical.not_not, ne_eq] at this
  exact ⟨this.1, fun n hn => Classical.byContradiction fun hc => this.2 n hn fun h0 h1 => hc ⟨h0, h1⟩⟩
abbrev withD (c : Cfg) (d : List (List Int)) : Cfg := ⟨c.hosts, c.cycle, c.delay, c.window, c.prec, d, c.entries, c.links, c.queue⟩
theorem check_withD (c : Cfg) (d : List (List Int)) (h : checkN c = 0) : checkN (withD c d) = if rowsOk (withD c d) = true then 0 else 4 := by
  obtain ⟨h1, h2, h3, h4, h5, h6, h7, h8⟩ := check_zero h
  have e5 : scheduleN (withD c d) = scheduleN c := rfl
  have e7 : (withD c d).links.any (badLink (withD c d)) = c.links.any (badLink c) := rfl
  have e3 : (withD c d).spans = c.spans := rfl
  have g1 : inB (withD c d).hosts 1 6 = true := decide_eq_true h1
  have g2 : inB (withD c d).cycle 1 1073741824 = true := decide_eq_true h2
  have g8 : inB (withD c d).queue 1 64 = true := h8
  unfold checkN
  rw [g1, g2, e3, h3, e5, h5, e7, h7, g8, if_neg (by simp), if_neg (by simp), if_neg (by simp)]
  cases hr : rowsOk (withD c d)
  · simp
  · have : ¬ 16 < (withD c d).links.length := by show ¬ 16 < c.links.length; omega
    simp [this]
theorem rowsOk_iff (c : Cfg) : rowsOk c = true ↔ (c.delays.length : Int) = c.hosts ∧ ∀ l ∈ c.delays, l.length = 2 ∧ ∀ n ∈ l, 0 ≤ n ∧ n ≤ c.delay := by
  refine ⟨rows_two, fun h => ?_⟩
  unfold rowsOk
  simp only [Bool.and_eq_true, decide_eq_true_eq, Bool.not_eq_true', List.any_eq_false]
  refine ⟨h.1, fun l hl => ?_⟩
  have := h.2 l hl
  simp only [rowBad, Bool.or_eq_true, decide_eq_true_eq, not_or, List.any_eq_true, not_exists, not_and, inB, Bool.not_eq_true', decide_eq_false_iff_not, Classical.not_not, ne_eq]
  exact ⟨this.1, fun n hn hc => hc (this.2 n hn).1 (this.2 n hn).2⟩
theorem rows_set (c : Cfg) (h : rowsOk c = true) (i k : Nat) (hi : i < c.delays.length) (hk : k < 2) (more : Int) : rowsOk (withD c (c.delays.set i (c.delays[i].set k more))) = inB more 0 c.delay := by
  obtain ⟨h1, h2⟩ := rows_two h
  have hri := h2 c.delays[i] (List.getElem_mem hi)
  rw [Bool.eq_iff_iff, rowsOk_iff]
  unfold inB
  rw [decide_eq_true_iff]
  constructor
  · rintro ⟨_, h4⟩
    have hm : c.delays[i].set k more ∈ c.delays.set i (c.delays[i].set k more) := List.mem_set hi _
    have hn : more ∈ c.delays[i].set k more := List.mem_set (by rw [hri.1]; exact hk) _
    exact (h4 _ hm).2 _ hn
  · intro hm
    refine ⟨by show ((c.delays.set i _).length : Int) = c.hosts; rw [List.length_set]; exact h1, fun l hl => ?_⟩
    rcases List.mem_or_eq_of_mem_set hl with hl | rfl
    · exact h2 l hl
    · refine ⟨by rw [List.length_set]; exact hri.1, fun n hn => ?_⟩
      rcases List.mem_or_eq_of_mem_set hn with hn | rfl
      · exact hri.2 n hn
      · exact hm
set_option maxRecDepth 100000 in
set_option maxHeartbeats 2000000 in
theorem delays_law (g : Gd W S) (c : Cfg) (q : Pl) (h : CfgAt W S c q) (hB : CfgB c) (hR : CfgR c) (a0 a1 : Nat) (ha0 : a0 < 256) (ha1 : a1 < 256) (more : Int) : Wp (cw W 8 #[cvl c q, .agg #[.int .u8 (a0 : Int), .int .u8 (a1 : Int)], i64 more] S) fun r => r.1 = .bool true := by
  rw [eq8]
  have hN := g.n; have hL : S.lock ≤ S.c := g.ok.1
  have hq := h.vlt
  have g1 := g.new (o := .row [Value.int .i64 c.hosts, .int .i64 c.cycle, .int .i64 c.delay, .int .i64 c.window, .int .i64 c.prec, .slice q.ad c.delays.length q.cd, .slice q.ae c.entries.length q.ce, .slice q.al c.links.length q.cl, .int .i64 c.queue] 0) (objLt_mono (Nat.le_succ _) (cvl_obj hq))
  have hq1 : vlt (S.c + 1) (cvl c q) = true := vlt_mono (by omega) hq
  have ha : [cvl c q].all (vlt S.c) = true := by rw [List.all_cons, hq]; rfl
  have g2 : Gd W ((S.new (.row [Value.int .i64 c.hosts, .int .i64 c.cycle, .int .i64 c.delay, .int .i64 c.window, .int .i64 c.prec, .slice q.ad c.delays.length q.cd, .slice q.ae c.entries.length q.ce, .slice q.al c.links.length q.cl, .int .i64 c.queue] 0)).new (.row [.int .u8 (a0 : Int), .int .u8 (a1 : Int)] 0)) := g1.new rfl
  have w2 : Low S ((S.new (.row [Value.int .i64 c.hosts, .int .i64 c.cycle, .int .i64 c.delay, .int .i64 c.window, .int .i64 c.prec, .slice q.ad c.delays.length q.cd, .slice q.ae c.entries.length q.ce, .slice q.al c.links.length q.cl, .int .i64 c.queue] 0)).new (.row [.int .u8 (a0 : Int), .int .u8 (a1 : Int)] 0)) := Low.new (Low.new (Low.rfl' S) _) _
  have h2 := h.low w2
  have e0 := fixed_eq g2
  have e1 := Check_eq g2 c q h2
  have e2 := RCheck_eq g2 c q h2
  have hb1 : ((S.new (.row [Value.int .i64 c.hosts, .int .i64 c.cycle, .int .i64 c.delay, .int .i64 c.window, .int .i64 c.prec, .slice q.ad c.delays.length q.cd, .slice q.ae c.entries.length q.ce, .slice q.al c.links.length q.cl, .int .i64 c.queue] 0)).new (.row [.int .u8 (a0 : Int), .int .u8 (a1 : Int)] 0)).heap S.c = .row (ccs c q) 0 := by rw [new_lo _ (by simp only [new_c]; omega)]; exact new_self _
  have hb2 : ((S.new (.row [Value.int .i64 c.hosts, .int .i64 c.cycle, .int .i64 c.delay, .int .i64 c.window, .int .i64 c.prec, .slice q.ad c.delays.length q.cd, .slice q.ae c.entries.length q.ce, .slice q.al c.links.length q.cl, .int .i64 c.queue] 0)).new (.row [.int .u8 (a0 : Int), .int .u8 (a1 : Int)] 0)).heap (S.c + 1) = .row [.int .u8 (a0 : Int), .int .u8 (a1 : Int)] 0 := new_self _
  by_cases hz : checkN c = 0
  · obtain ⟨⟨hh1, hh6⟩, _, hsp, hrw, _⟩ := check_zero hz
    obtain ⟨hlen, hrow⟩ := rows_two hrw
    have hz' : (checkN c = 0) = True := eq_true hz
    simp -implicitDefEqProofs (maxSteps := 1000000) (disch := (refine id ?_; first | with_reducible assumption | ((first | with_reducible refine nat_lt_id ?_ | with_reducible refine nat_le_id ?_ | with_reducible refine nat_ne_id ?_); (first | (simp +arith only [new_c, new_lock, upd_c, upd_lock, relock_c, relock_lock]; done) | (simp only [new_c, new_lock, upd_c, upd_lock, relock_c, relock_lock]; with_reducible assumption) | (refine Nat.le_trans hN ?_; simp +arith only [new_c, new_lock, upd_c, upd_lock, relock_c, relock_lock]; done) | (refine Nat.le_trans hL ?_; simp +arith only [new_c, new_lock, upd_c, upd_lock, relock_c, relock_lock]; done) | fail)) | ((fail_if_success (with_reducible apply isT_of)); (fail_if_success (first | with_reducible refine nat_lt_id ?_ | with_reducible refine nat_le_id ?_ | with_reducible refine nat_ne_id ?_)); first | (simp +arith only [new_c, new_lock, upd_c, upd_lock, relock_c, relock_lock]; done) | (refine Nat.le_trans hN ?_; simp +arith only [new_c, new_lock, upd_c, upd_lock, relock_c, relock_lock]; done) | (refine Nat.le_trans hL ?_; simp +arith only [new_c, new_lock, upd_c, upd_lock, relock_c, relock_lock]; done) | omega | (simp only [new_c, new_lock, upd_c, upd_lock, relock_c, relock_lock] <;> omega) | fail))) only [e0, e1, e2, hz', ↓bindV_some, ↓bindS_some, ↓bindT_some, ↓condB_true, ↓condB_false, wV_true, wV_false, ↓wO_false, bindV_some, bindS_some, bindT_some, ↓gV_f, wrap64, ↓condK_B, wO_false, wV_pos, wO_val, pick_bool, bin_lss, bin_gtr, bin_eql, bin_neq, un_not, pick_true, box_agg, cell_at, cells_at, put_cons, cellOf_row, cellsOf_row, putOf_row, nth_zero, nth_succ, aggOf_some, new_self, eq_self, new_upd, new_at, new_lo, upd_lo, new_c, new_lock, upd_self, or_false, relock2, relock_id, qS_true, unlock_some, splice_nil, splice_cons, decide_true, decide_false, and_self, and_true, true_and, Bool.not_true, Bool.not_false, Nat.zero_add, Nat.add_zero, List.length_cons, List.length_nil, List.drop_zero, List.take_succ_cons, List.take_zero, List.set_cons_zero, List.set_cons_succ, List.all_cons, List.all_nil, storable_int, storable_slice, Bool.and_true, Bool.true_and, Bool.and_self, not_false_eq_true, Nat.reduceAdd, Nat.reduceSub, Nat.reduceMul, Nat.reduceLeDiff, Nat.reduceLT, Nat.reduceEqDiff, Int.reduceLE, Int.reduceLT, Int.reduceAdd, Int.reduceNeg, Int.reduceEq, Int.reduceSub, Int.reduceMul, Int.reduceToNat, Int.toNat_natCast, Int.toNat_zero, Nat.mul_one, Bool.or_false, ↓reduceIte, Nat.le_refl, reduceCtorEq, call_10, call_11, call_12, call_26, ld_2, st_2, ld_3, ld_5, ld_22, ix_22, fa_26_0, fa_26_2, fa_26_5, ld_26, st_26, ld_45, ix_45, ixa_48, al_26, cv_5_3]
    refine Wp.bS ((Copy_ok g2 c q hB h2).mono fun r hr => ?_)
    obtain ⟨v, S5⟩ := r
    obtain ⟨q', rfl, g5, w5, hO⟩ := hr
    dsimp only at g5 w5 hO ⊢
    obtain ⟨svs, m1, m2, m3, z1, z2, z3, z4, mD, eD, mI, pw, mN, mK⟩ := hO
    have hsl : svs.length = c.delays.length := by rw [← eD, List.length_map]
    obtain ⟨H, hH⟩ := Int.eq_ofNat_of_zero_le (show 0 ≤ c.hosts by omega)
    have hi : a0 % H < c.delays.length := by have := Nat.mod_lt a0 (show H > 0 by omega); omega
    have hk2 : a1 % 2 < 2 := Nat.mod_lt _ (by omega)
    have er0 : aBin p .rem 3 (.int .i64 (a0 : Int)) (.int .i64 c.hosts) = some (.int .i64 ((a0 % H : Nat) : Int)) := by
      rw [hH, bin_rem _ _ _ _ (by omega)]; rfl
    have er1 : aBin p .rem 3 (.int .i64 (a1 : Int)) (.int .i64 2) = some (.int .i64 ((a1 % 2 : Nat) : Int)) := by
      rw [bin_rem _ _ _ _ (by omega)]; rfl
    generalize a0 % H = hI at *
    generalize a1 % 2 = kI at *
    have hiS : hI < svs.length := by omega
    obtain ⟨ad, cd, ae, ce, al, cl⟩ := q'
    dsimp only at mD mN mK
    rcases mD with ⟨_, _, _, e, _⟩ | ⟨bd, cd', kd, ed, _, hcd, zd1, zd2, hrd, hkd⟩
    · rw [e] at hiS; exact absurd hiS (by simp)
    injection ed with e1 _ e3
    subst e1 e3
    have hsI : svs[hI].l.length = 2 := (hrow svs[hI].l (by rw [← eD]; exact List.mem_map_of_mem (List.getElem_mem hiS))).1
    have two : ∀ s ∈ svs, s.l.length = 2 := fun s hs => (hrow s.l (by rw [← eD]; exact List.mem_map_of_mem hs)).1
    rcases mI svs[hI] (List.getElem_mem hiS) with ⟨_, _, _, e, _⟩ | ⟨br, cr, kr, ers, _, hcr, zr1, zr2, hrr, hkr⟩
    · rw [e] at hsI; cases hsI
    have g6 : Gd W (S5.new (.row (ccs c ⟨some ⟨bd, 0, none⟩, cd, ae, ce, al, cl⟩) 0)) := by
      refine g5.new (objLt_mono (Nat.le_succ _) (cvl_obj (S := S5) (q := ⟨some ⟨bd, 0, none⟩, cd, ae, ce, al, cl⟩) ?_))
      have v1 := (mN.rd g5 (by have := g.n; simp only [new_c] at z1; omega) (by omega)).vlt
      have v2 := (mK.rd g5 (by have := g.n; simp only [new_c] at z1; omega) (Nat.le_refl _)).vlt
      rw [vlt_agg]
      simp only [List.all_cons, List.all_nil, vlt1_int, v1, v2, vlt1_sl, Bool.and_true, Bool.true_and]
      exact decide_eq_true (by omega)
    have w6 : Low S5 (S5.new (.row (ccs c ⟨some ⟨bd, 0, none⟩, cd, ae, ce, al, cl⟩) 0)) := Low.new (Low.rfl' _) _
    simp only [new_c] at z1 zd1
    have hne1 : S5.c ≠ br := by omega
    have hne2 : S.c ≠ br := by omega
    have hne3 : S.c + 1 ≠ br := by omega
    have hb6 : (S5.new (.row (ccs c ⟨some ⟨bd, 0, none⟩, cd, ae, ce, al, cl⟩) 0)).heap S.c = .row (ccs c q) 0 := (w6.2.2 S.c (by have := w5.2.1; simp only [new_c] at this; omega)).trans ((w5.2.2 S.c (by simp only [new_c]; omega)).trans hb1)
    have hb7 : (S5.new (.row (ccs c ⟨some ⟨bd, 0, none⟩, cd, ae, ce, al, cl⟩) 0)).heap (S.c + 1) = .row [.int .u8 (a0 : Int), .int .u8 (a1 : Int)] 0 := (w6.2.2 (S.c + 1) (by have := w5.2.1; simp only [new_c] at this; omega)).trans ((w5.2.2 (S.c + 1) (by simp only [new_c]; omega)).trans hb2)
    have hWd : W.heap.size ≤ bd := by omega
    have hN5 := g5.n
    have hL5 := g5.ok.1
    have hlk : S5.lock = S.lock := w5.1
    have e5 : (S5.new (.row (ccs c ⟨some ⟨bd, 0, none⟩, cd, ae, ce, al, cl⟩) 0)).cell W ⟨bd, hI, none⟩ = some (.slice (some ⟨br, 0, none⟩) 2 cr) := by
      rw [cell_at hWd, new_lo _ (by omega), hrd, cellOf_row, nth_eq]
      have := fl_nth (T := VT) svs hI 0 hiS (by decide)
      rw [show VT.k = 1 from rfl, Nat.mul_one, Nat.add_zero] at this
      rw [this]
      show some (Value.slice svs[hI].a svs[hI].n svs[hI].c) = _
      rw [ers, hsI]
    have hbr6 : (S5.new (.row (ccs c ⟨some ⟨bd, 0, none⟩, cd, ae, ce, al, cl⟩) 0)).heap br = .row (IT.fl svs[hI].l) kr := (new_lo _ (by omega)).trans hrr
    have hfl : splice (IT.fl svs[hI].l) kI [.int .i64 more] = IT.fl (svs[hI].l.set kI more) := by
      match svs[hI].l, hsI, kI, hk2 with
      | [x, y], _, 0, _ => rfl
      | [x, y], _, 1, _ => rfl
    have eput : (S5.new (.row (ccs c ⟨some ⟨bd, 0, none⟩, cd, ae, ce, al, cl⟩) 0)).put ⟨br, kI, none⟩ [.int .i64 more] = some ((S5.new (.row (ccs c ⟨some ⟨bd, 0, none⟩, cd, ae, ce, al, cl⟩) 0)).upd br (.row (IT.fl (svs[hI].l.set kI more)) kr)) := by
      rw [put_cons (by rw [new_lock, hlk]; omega), hbr6, putOf_row, if_pos (by rw [fl_len, hsI]; show kI + 1 ≤ 2 * 1; omega), if_pos (show [Value.int .i64 more].all storable = true from rfl), hfl]
    have x7 : Ext [br] (S5.new (.row (ccs c ⟨some ⟨bd, 0, none⟩, cd, ae, ce, al, cl⟩) 0)) ((S5.new (.row (ccs c ⟨some ⟨bd, 0, none⟩, cd, ae, ce, al, cl⟩) 0)).upd br (.row (IT.fl (svs[hI].l.set kI more)) kr)) := Ext.upd g6.ok (by simp only [new_c]; omega) (fl_flat (fun _ => rfl) _ _)
    have g7 := x7.good g6
    have h7 : CfgAt W ((S5.new (.row (ccs c ⟨some ⟨bd, 0, none⟩, cd, ae, ce, al, cl⟩) 0)).upd br (.row (IT.fl (svs[hI].l.set kI more)) kr)) (withD c (c.delays.set hI (svs[hI].l.set kI more))) ⟨some ⟨bd, 0, none⟩, cd, ae, ce, al, cl⟩ := by
      have hm1 : m1 ≤ S5.c := by omega
      have kp : ∀ i, i < S5.c → i ≠ br → ∀ o o', (((S5.new o).upd br o').heap i = S5.heap i) := fun i h1 h2 o o' => (upd_ne _ h2).trans (new_lo _ h1)
      have hm2 : m2 ≤ S5.c := by omega
      refine ⟨⟨svs.set hI ⟨svs[hI].a, svs[hI].n, svs[hI].c, svs[hI].l.set kI more⟩, ?_, ?_, ?_⟩, ?_, ?_, ?_, ?_, h.le, h.ll, h.et, h.lt⟩
      · have e1 : VT.fl (svs.set hI ⟨svs[hI].a, svs[hI].n, svs[hI].c, svs[hI].l.set kI more⟩) = VT.fl svs := by
          unfold Enc.fl
          rw [List.flatMap_def, List.flatMap_def, List.map_set]
          refine congrArg List.flatten ?_
          have : VT.cs ⟨svs[hI].a, svs[hI].n, svs[hI].c, svs[hI].l.set kI more⟩ = (svs.map VT.cs)[hI]'(by rw [List.length_map]; exact hiS) := by rw [List.getElem_map]; rfl
          rw [this, List.set_getElem_self]
        exact rd_made g7 _ (k := kd) (by show (c.delays.set hI _).length = _; rw [List.length_set, List.length_set, hsl]) (by rw [List.length_set]; omega) (by show (c.delays.set hI (svs[hI].l.set kI more)).length ≤ cd; rw [List.length_set, ← hsl]; exact hcd) hWd (by rw [kp bd (by omega) (by omega), hrd, e1]) hkd
      · rw [List.map_set, eD]
      · intro t ht
        obtain ⟨j, hj, rfl⟩ := List.getElem_of_mem ht
        rw [List.length_set] at hj
        rw [List.getElem_set]
        by_cases hjI : hI = j
        · rw [if_pos hjI]
          show Rd IT W _ (.slice svs[hI].a svs[hI].n svs[hI].c) (svs[hI].l.set kI more)
          rw [ers]
          exact rd_made g7 _ (k := kr) (by rw [List.length_set]) (by rw [List.length_set]; omega) hcr (by omega) (upd_self _ _) hkr
        · rw [if_neg hjI]
          have mj := mI svs[j] (List.getElem_mem hj)
          have rj := ((mj.rd g5 (by omega) (by omega)).low w6).ext x7
          refine rj fun i hi2 => ?_
          rw [List.mem_singleton]
          intro hib
          subst hib
          have hnj : svs[j].n = 2 := by
            obtain ⟨a, c', e⟩ := mj.form
            injection e with _ e _
            rw [e, two svs[j] (List.getElem_mem hj)]
          have b1 : i ∈ nb svs[j] := by unfold nb; rw [if_neg (by omega)]; exact hi2
          have hnI : svs[hI].n = 2 := by injection ers with _ e _; rw [e, hsI]
          have b2 : i ∈ nb svs[hI] := by unfold nb; rw [if_neg (by omega), ers]; simp [blkOf]
          rw [List.pairwise_iff_getElem] at pw
          rcases Nat.lt_or_gt_of_ne hjI with h1 | h1
          · exact pw hI j hiS hj h1 i b2 b1
          · exact pw j hI hj hiS h1 i b1 b2
      · exact (mN.keep fun i h1 h2 => kp i (by omega) (by omega) _ _).rd g7 (by omega) (by simp only [upd_c, new_c]; omega)
      · exact (mK.keep fun i h1 h2 => kp i (by omega) (by omega) _ _).rd g7 (by omega) (by simp only [upd_c, new_c]; omega)
      · show (c.delays.set hI _).length ≤ _
        rw [List.length_set]; exact h.ld
      · intro l hl
        rcases List.mem_or_eq_of_mem_set hl with hl | rfl
        · exact h.ldd l hl
        · rw [List.length_set]; omega
    have eDI : c.delays[hI] = svs[hI].l := by rw [List.getElem_of_eq eD.symm hi, List.getElem_map]
    have ec := check_withD c (c.delays.set hI (svs[hI].l.set kI more)) hz
    have ers2 := rows_set c hrw hI kI hi hk2 more
    rw [eDI] at ers2
    rw [ers2] at ec
    have e7 : cw W 11 #[.agg #[.int .i64 c.hosts, .int .i64 c.cycle, .int .i64 c.delay, .int .i64 c.window, .int .i64 c.prec, .slice (some ⟨bd, 0, none⟩) c.delays.length cd, .slice ae c.entries.length ce, .slice al c.links.length cl, .int .i64 c.queue]] ((S5.new (.row (ccs c ⟨some ⟨bd, 0, none⟩, cd, ae, ce, al, cl⟩) 0)).upd br (.row (IT.fl (svs[hI].l.set kI more)) kr)) = some (i64 (if inB more 0 c.delay = true then 0 else 4), (S5.new (.row (ccs c ⟨some ⟨bd, 0, none⟩, cd, ae, ce, al, cl⟩) 0)).upd br (.row (IT.fl (svs[hI].l.set kI more)) kr)) := by
      have := Check_eq g7 _ _ h7
      rw [ec] at this
      have el : (c.delays.set hI (svs[hI].l.set kI more)).length = c.delays.length := List.length_set
      rw [cvl] at this
      dsimp only at this
      rw [el] at this
      exact this
    generalize (IT.fl (svs[hI].l.set kI more)) = L7 at *
    have hxi : (hI : Int) < (c.delays.length : Int) := by omega
    have hxk : (kI : Int) < 2 := by omega
    clear x7 g7 h7 ec ers2 hfl hrr hrd ers eDI mI mN mK pw
    by_cases hm : 0 ≤ more ∧ more ≤ c.delay
    · have i1 : inB more 0 c.delay = true := decide_eq_true hm
      have m1' : ¬ more < 0 := by omega
      have m2' : ¬ c.delay < more := by omega
      rw [if_pos i1] at e7
      simp -implicitDefEqProofs (maxSteps := 1000000) (disch := (refine id ?_; first | with_reducible assumption | ((first | with_reducible refine nat_lt_id ?_ | with_reducible refine nat_le_id ?_ | with_reducible refine nat_ne_id ?_); (first | (simp +arith only [new_c, new_lock, upd_c, upd_lock, relock_c, relock_lock]; done) | (simp only [new_c, new_lock, upd_c, upd_lock, relock_c, relock_lock]; with_reducible assumption) | (refine Nat.le_trans hN ?_; simp +arith only [new_c, new_lock, upd_c, upd_lock, relock_c, relock_lock]; done) | (refine Nat.le_trans hL ?_; simp +arith only [new_c, new_lock, upd_c, upd_lock, relock_c, relock_lock]; done) | fail)) | ((fail_if_success (with_reducible apply isT_of)); (fail_if_success (first | with_reducible refine nat_lt_id ?_ | with_reducible refine nat_le_id ?_ | with_reducible refine nat_ne_id ?_)); first | (simp +arith only [new_c, new_lock, upd_c, upd_lock, relock_c, relock_lock]; done) | (refine Nat.le_trans hN ?_; simp +arith only [new_c, new_lock, upd_c, upd_lock, relock_c, relock_lock]; done) | (refine Nat.le_trans hL ?_; simp +arith only [new_c, new_lock, upd_c, upd_lock, relock_c, relock_lock]; done) | omega | (simp only [new_c, new_lock, upd_c, upd_lock, relock_c, relock_lock] <;> omega) | fail))) only [hb6, hb7, er0, er1, e5, eput, e7, hxi, hxk, m1', m2', ↓bindV_some, ↓bindS_some, ↓bindT_some, ↓condB_true, ↓condB_false, wV_true, wV_false, ↓wO_false, bindV_some, bindS_some, bindT_some, ↓gV_f, wrap64, ↓condK_B, wO_false, wV_pos, wO_val, pick_bool, bin_lss, bin_gtr, bin_eql, bin_neq, un_not, pick_true, box_agg, cell_at, cells_at, put_cons, cellOf_row, cellsOf_row, putOf_row, nth_zero, nth_succ, aggOf_some, new_self, eq_self, new_upd, new_at, new_lo, upd_lo, new_c, new_lock, upd_self, or_false, relock2, relock_id, qS_true, unlock_some, splice_nil, splice_cons, decide_true, decide_false, and_self, and_true, true_and, Bool.not_true, Bool.not_false, Nat.zero_add, Nat.add_zero, List.length_cons, List.length_nil, List.drop_zero, List.take_succ_cons, List.take_zero, List.set_cons_zero, List.set_cons_succ, List.all_cons, List.all_nil, storable_int, storable_slice, Bool.and_true, Bool.true_and, Bool.and_self, not_false_eq_true, Nat.reduceAdd, Nat.reduceSub, Nat.reduceMul, Nat.reduceLeDiff, Nat.reduceLT, Nat.reduceEqDiff, Int.reduceLE, Int.reduceLT, Int.reduceAdd, Int.reduceNeg, Int.reduceEq, Int.reduceSub, Int.reduceMul, Int.reduceToNat, Int.toNat_natCast, Int.toNat_zero, Nat.mul_one, Bool.or_false, ↓reduceIte, Nat.le_refl, reduceCtorEq, call_10, call_11, call_12, call_26, ld_2, st_2, ld_3, ld_5, ld_22, ix_22, fa_26_0, fa_26_2, fa_26_5, ld_26, st_26, ld_45, ix_45, ixa_48, al_26, cv_5_3]
      exact ⟨_, rfl, rfl⟩
    · have i1 : inB more 0 c.delay = false := decide_eq_false hm
      rw [if_neg (by rw [i1]; simp)] at e7
      by_cases m1' : more < 0
      · simp -implicitDefEqProofs (maxSteps := 1000000) (disch := (refine id ?_; first | with_reducible assumption | ((first | with_reducible refine nat_lt_id ?_ | with_reducible refine nat_le_id ?_ | with_reducible refine nat_ne_id ?_); (first | (simp +arith only [new_c, new_lock, upd_c, upd_lock, relock_c, relock_lock]; done) | (simp only [new_c, new_lock, upd_c, upd_lock, relock_c, relock_lock]; with_reducible assumption) | (refine Nat.le_trans hN ?_; simp +arith only [new_c, new_lock, upd_c, upd_lock, relock_c, relock_lock]; done) | (refine Nat.le_trans hL ?_; simp +arith only [new_c, new_lock, upd_c, upd_lock, relock_c, relock_lock]; done) | fail)) | ((fail_if_success (with_reducible apply isT_of)); (fail_if_success (first | with_reducible refine nat_lt_id ?_ | with_reducible refine nat_le_id ?_ | with_reducible refine nat_ne_id ?_)); first | (simp +arith only [new_c, new_lock, upd_c, upd_lock, relock_c, relock_lock]; done) | (refine Nat.le_trans hN ?_; simp +arith only [new_c, new_lock, upd_c, upd_lock, relock_c, relock_lock]; done) | (refine Nat.le_trans hL ?_; simp +arith only [new_c, new_lock, upd_c, upd_lock, relock_c, relock_lock]; done) | omega | (simp only [new_c, new_lock, upd_c, upd_lock, relock_c, relock_lock] <;> omega) | fail))) only [hb6, hb7, er0, er1, e5, eput, e7, hxi, hxk, m1', ↓bindV_some, ↓bindS_some, ↓bindT_some, ↓condB_true, ↓condB_false, wV_true, wV_false, ↓wO_false, bindV_some, bindS_some, bindT_some, ↓gV_f, wrap64, ↓condK_B, wO_false, wV_pos, wO_val, pick_bool, bin_lss, bin_gtr, bin_eql, bin_neq, un_not, pick_true, box_agg, cell_at, cells_at, put_cons, cellOf_row, cellsOf_row, putOf_row, nth_zero, nth_succ, aggOf_some, new_self, eq_self, new_upd, new_at, new_lo, upd_lo, new_c, new_lock, upd_self, or_false, relock2, relock_id, qS_true, unlock_some, splice_nil, splice_cons, decide_true, decide_false, and_self, and_true, true_and, Bool.not_true, Bool.not_false, Nat.zero_add, Nat.add_zero, List.length_cons, List.length_nil, List.drop_zero, List.take_succ_cons, List.take_zero, List.set_cons_zero, List.set_cons_succ, List.all_cons, List.all_nil, storable_int, storable_slice, Bool.and_true, Bool.true_and, Bool.and_self, not_false_eq_true, Nat.reduceAdd, Nat.reduceSub, Nat.reduceMul, Nat.reduceLeDiff, Nat.reduceLT, Nat.reduceEqDiff, Int.reduceLE, Int.reduceLT, Int.reduceAdd, Int.reduceNeg, Int.reduceEq, Int.reduceSub, Int.reduceMul, Int.reduceToNat, Int.toNat_natCast, Int.toNat_zero, Nat.mul_one, Bool.or_false, ↓reduceIte, Nat.le_refl, reduceCtorEq, call_10, call_11, call_12, call_26, ld_2, st_2, ld_3, ld_5, ld_22, ix_22, fa_26_0, fa_26_2, fa_26_5, ld_26, st_26, ld_45, ix_45, ixa_48, al_26, cv_5_3]
        exact ⟨_, rfl, rfl⟩
      · have m2' : c.delay < more := by omega
        simp -implicitDefEqProofs (maxSteps := 1000000) (disch := (refine id ?_; first | with_reducible assumption | ((first | with_reducible refine nat_lt_id ?_ | with_reducible refine nat_le_id ?_ | with_reducible refine nat_ne_id ?_); (first | (simp +arith only [new_c, new_lock, upd_c, upd_lock, relock_c, relock_lock]; done) | (simp only [new_c, new_lock, upd_c, upd_lock, relock_c, relock_lock]; with_reducible assumption) | (refine Nat.le_trans hN ?_; simp +arith only [new_c, new_lock, upd_c, upd_lock, relock_c, relock_lock]; done) | (refine Nat.le_trans hL ?_; simp +arith only [new_c, new_lock, upd_c, upd_lock, relock_c, relock_lock]; done) | fail)) | ((fail_if_success (with_reducible apply isT_of)); (fail_if_success (first | with_reducible refine nat_lt_id ?_ | with_reducible refine nat_le_id ?_ | with_reducible refine nat_ne_id ?_)); first | (simp +arith only [new_c, new_lock, upd_c, upd_lock, relock_c, relock_lock]; done) | (refine Nat.le_trans hN ?_; simp +arith only [new_c, new_lock, upd_c, upd_lock, relock_c, relock_lock]; done) | (refine Nat.le_trans hL ?_; simp +arith only [new_c, new_lock, upd_c, upd_lock, relock_c, relock_lock]; done) | omega | (simp only [new_c, new_lock, upd_c, upd_lock, relock_c, relock_lock] <;> omega) | fail))) only [hb6, hb7, er0, er1, e5, eput, e7, hxi, hxk, m1', m2', ↓bindV_some, ↓bindS_some, ↓bindT_some, ↓condB_true, ↓condB_false, wV_true, wV_false, ↓wO_false, bindV_some, bindS_some, bindT_some, ↓gV_f, wrap64, ↓condK_B, wO_false, wV_pos, wO_val, pick_bool, bin_lss, bin_gtr, bin_eql, bin_neq, un_not, pick_true, box_agg, cell_at, cells_at, put_cons, cellOf_row, cellsOf_row, putOf_row, nth_zero, nth_succ, aggOf_some, new_self, eq_self, new_upd, new_at, new_lo, upd_lo, new_c, new_lock, upd_self, or_false, relock2, relock_id, qS_true, unlock_some, splice_nil, splice_cons, decide_true, decide_false, and_self, and_true, true_and, Bool.not_true, Bool.not_false, Nat.zero_add, Nat.add_zero, List.length_cons, List.length_nil, List.drop_zero, List.take_succ_cons, List.take_zero, List.set_cons_zero, List.set_cons_succ, List.all_cons, List.all_nil, storable_int, storable_slice, Bool.and_true, Bool.true_and, Bool.and_self, not_false_eq_true, Nat.reduceAdd, Nat.reduceSub, Nat.reduceMul, Nat.reduceLeDiff, Nat.reduceLT, Nat.reduceEqDiff, Int.reduceLE, Int.reduceLT, Int.reduceAdd, Int.reduceNeg, Int.reduceEq, Int.reduceSub, Int.reduceMul, Int.reduceToNat, Int.toNat_natCast, Int.toNat_zero, Nat.mul_one, Bool.or_false, ↓reduceIte, Nat.le_refl, reduceCtorEq, call_10, call_11, call_12, call_26, ld_2, st_2, ld_3, ld_5, ld_22, ix_22, fa_26_0, fa_26_2, fa_26_5, ld_26, st_26, ld_45, ix_45, ixa_48, al_26, cv_5_3]
        exact ⟨_, rfl, rfl⟩
  · simp -implicitDefEqProofs (maxSteps := 1000000) (disch := (refine id ?_; first | with_reducible assumption | ((first | with_reducible refine nat_lt_id ?_ | with_reducible refine nat_le_id ?_ | with_reducible refine nat_ne_id ?_); (first | (simp +arith only [new_c, new_lock, upd_c, upd_lock, relock_c, relock_lock]; done) | (simp only [new_c, new_lock, upd_c, upd_lock, relock_c, relock_lock]; with_reducible assumption) | (refine Nat.le_trans hN ?_; simp +arith only [new_c, new_lock, upd_c, upd_lock, relock_c, relock_lock]; done) | (refine Nat.le_trans hL ?_; simp +arith only [new_c, new_lock, upd_c, upd_lock, relock_c, relock_lock]; done) | fail)) | ((fail_if_success (with_reducible apply isT_of)); (fail_if_success (first | with_reducible refine nat_lt_id ?_ | with_reducible refine nat_le_id ?_ | with_reducible refine nat_ne_id ?_)); first | (simp +arith only [new_c, new_lock, upd_c, upd_lock, relock_c, relock_lock]; done) | (refine Nat.le_trans hN ?_; simp +arith only [new_c, new_lock, upd_c, upd_lock, relock_c, relock_lock]; done) | (refine Nat.le_trans hL ?_; simp +arith only [new_c, new_lock, upd_c, upd_lock, relock_c, relock_lock]; done) | omega | (simp only [new_c, new_lock, upd_c, upd_lock, relock_c, relock_lock] <;> omega) | fail))) only [e0, e1, e2, hz, ↓bindV_some, ↓bindS_some, ↓bindT_some, ↓condB_true, ↓condB_false, wV_true, wV_false, ↓wO_false, bindV_some, bindS_some, bindT_some, ↓gV_f, wrap64, ↓condK_B, wO_false, wV_pos, wO_val, pick_bool, bin_lss, bin_gtr, bin_eql, bin_neq, un_not, pick_true, box_agg, cell_at, cells_at, put_cons, cellOf_row, cellsOf_row, putOf_row, nth_zero, nth_succ, aggOf_some, new_self, eq_self, new_upd, new_at, new_lo, upd_lo, new_c, new_lock, upd_self, or_false, relock2, relock_id, qS_true, unlock_some, splice_nil, splice_cons, decide_true, decide_false, and_self, and_true, true_and, Bool.not_true, Bool.not_false, Nat.zero_add, Nat.add_zero, List.length_cons, List.length_nil, List.drop_zero, List.take_succ_cons, List.take_zero, List.set_cons_zero, List.set_cons_succ, List.all_cons, List.all_nil, storable_int, storable_slice, Bool.and_true, Bool.true_and, Bool.and_self, not_false_eq_true, Nat.reduceAdd, Nat.reduceSub, Nat.reduceMul, Nat.reduceLeDiff, Nat.reduceLT, Nat.reduceEqDiff, Int.reduceLE, Int.reduceLT, Int.reduceAdd, Int.reduceNeg, Int.reduceEq, Int.reduceSub, Int.reduceMul, Int.reduceToNat, Int.toNat_natCast, Int.toNat_zero, Nat.mul_one, Bool.or_false, ↓reduceIte, Nat.le_refl, reduceCtorEq, call_10, call_11, call_12, call_26, ld_2, st_2, ld_3, ld_5, ld_22, ix_22, fa_26_0, fa_26_2, fa_26_5, ld_26, st_26, ld_45, ix_45, ixa_48, al_26, cv_5_3]
    exact ⟨_, rfl, rfl⟩
end
end Go.Proofs.Ytogcdgdnjinjkaa.F
end
section
namespace Go.Proofs.Ytogcdgdnjinjkaa.F
open Go Go.Proofs.Ytogcdgdnjinjkaa.E
set_option linter.unusedVariables false
set_option linter.unusedSimpArgs false
abbrev withE (c : Cfg) (d : List En) : Cfg := ⟨c.hosts, c.cycle, c.delay, c.window, c.prec, c.delays, d, c.links, c.queue⟩
theorem pairsB_snoc (bad : En → En → Bool) (e : En) : ∀ (l pre : List En), pairsB bad pre (l ++ [e]) = (pairsB bad pre l || (pre ++ l).any (bad e))
  | [], pre => by simp [pairsB]
  | a :: l, pre => by
    rw [List.cons_append, pairsB, pairsB, pairsB_snoc bad e l (pre ++ [a]), List.append_assoc, Bool.or_assoc]
    rfl
theorem same_self (e : En) : same e e = true := by
  have := tm_rng e.sz
  unfold same meets
  simp
  omega
theorem schedule_zero {c : Cfg} (h : scheduleN c = 0) : c.entries.length ≤ 16 ∧ c.entries.any (badRoute c) = false ∧ c.entries.any (badTime c) = false ∧ pairsB same [] c.entries = false ∧ pairsB (both c) [] c.entries = false := by
  unfold scheduleN at h
  split at h
  · omega
  split at h
  · omega
  split at h
  · omega
  split at h
  · omega
  split at h
  · omega
  rename_i h1 h2 h3 h4 h5
  exact ⟨by omega, by simpa using h2, by simpa using h3, by simpa using h4, by simpa using h5⟩
theorem twins_check (c : Cfg) (h : checkN c = 0) (h16 : c.entries.length ≠ 16) (e : En) (he : e ∈ c.entries) : checkN (withE c (c.entries ++ [e])) = 7 := by
  obtain ⟨h1, h2, h3, h4, h5, h6, h7, h8⟩ := check_zero h
  obtain ⟨s1, s2, s3, s4, s5⟩ := schedule_zero h5
  have g1 : inB (withE c (c.entries ++ [e])).hosts 1 6 = true := decide_eq_true h1
  have g2 : inB (withE c (c.entries ++ [e])).cycle 1 1073741824 = true := decide_eq_true h2
  have g3 : (withE c (c.entries ++ [e])).spans = true := h3
  have g4 : rowsOk (withE c (c.entries ++ [e])) = true := h4
  have b1 : badRoute c e = false := by simpa using List.any_eq_false.1 s2 e he
  have b2 : badTime c e = false := by simpa using List.any_eq_false.1 s3 e he
  have g5 : scheduleN (withE c (c.entries ++ [e])) = 7 := by
    unfold scheduleN
    rw [if_neg (by show ¬ 16 < (c.entries ++ [e]).length; rw [List.length_append, List.length_singleton]; omega)]
    have t1 : (withE c (c.entries ++ [e])).entries.any (badRoute (withE c (c.entries ++ [e]))) = false := by
      show (c.entries ++ [e]).any (badRoute c) = false
      rw [List.any_append, s2, List.any_cons, b1]; rfl
    have t2 : (withE c (c.entries ++ [e])).entries.any (badTime (withE c (c.entries ++ [e]))) = false := by
      show (c.entries ++ [e]).any (badTime c) = false
      rw [List.any_append, s3, List.any_cons, b2]; rfl
    have t3 : pairsB same [] (withE c (c.entries ++ [e])).entries = true := by
      show pairsB same [] (c.entries ++ [e]) = true
      rw [pairsB_snoc, s4, List.nil_append, Bool.false_or]
      exact List.any_eq_true.2 ⟨e, he, same_self e⟩
    rw [t1, t2, t3]
    simp
  unfold checkN
  rw [g1, g2, g3, g4, g5]
  simp
section
variable {W : World} {S : St}
set_option maxRecDepth 100000 in
set_option maxHeartbeats 2000000 in
theorem twins_law (g : Gd W S) (c : Cfg) (q : Pl) (h : CfgAt W S c q) (hB : CfgB c) (hR : CfgR c) (x : Nat) (hx : x < 256) : Wp (cw W 9 #[cvl c q, .int .u8 (x : Int)] S) fun r => r.1 = .bool true := by
  rw [eq9]
  have hN := g.n; have hL : S.lock ≤ S.c := g.ok.1
  have hq := h.vlt
  have g1 := g.new (o := .row [Value.int .i64 c.hosts, .int .i64 c.cycle, .int .i64 c.delay, .int .i64 c.window, .int .i64 c.prec, .slice q.ad c.delays.length q.cd, .slice q.ae c.entries.length q.ce, .slice q.al c.links.length q.cl, .int .i64 c.queue] 0) (objLt_mono (Nat.le_succ _) (cvl_obj hq))
  have hq1 : vlt (S.c + 1) (cvl c q) = true := vlt_mono (by omega) hq
  have ha : [cvl c q].all (vlt S.c) = true := by rw [List.all_cons, hq]; rfl
  have w1 : Low S (S.new (.row [Value.int .i64 c.hosts, .int .i64 c.cycle, .int .i64 c.delay, .int .i64 c.window, .int .i64 c.prec, .slice q.ad c.delays.length q.cd, .slice q.ae c.entries.length q.ce, .slice q.al c.links.length q.cl, .int .i64 c.queue] 0)) := Low.new (Low.rfl' S) _
  have h1 := h.low w1
  have e0 := fixed_eq g1
  have e1 := Check_eq g1 c q h1
  have hb1 : (S.new (.row [Value.int .i64 c.hosts, .int .i64 c.cycle, .int .i64 c.delay, .int .i64 c.window, .int .i64 c.prec, .slice q.ad c.delays.length q.cd, .slice q.ae c.entries.length q.ce, .slice q.al c.links.length q.cl, .int .i64 c.queue] 0)).heap S.c = .row (ccs c q) 0 := new_self _
  by_cases hz : checkN c = 0
  · have hz' : (checkN c = 0) = True := eq_true hz
    by_cases hl0 : c.entries.length = 0
    · have hl0' : ((c.entries.length : Int) = 0) = True := eq_true (by omega)
      simp -implicitDefEqProofs (maxSteps := 1000000) (disch := (refine id ?_; first | with_reducible assumption | ((first | with_reducible refine nat_lt_id ?_ | with_reducible refine nat_le_id ?_ | with_reducible refine nat_ne_id ?_); (first | (simp +arith only [new_c, new_lock, upd_c, upd_lock, relock_c, relock_lock]; done) | (simp only [new_c, new_lock, upd_c, upd_lock, relock_c, relock_lock]; with_reducible assumption) | (refine Nat.le_trans hL ?_; simp +arith only [new_c, new_lock, upd_c, upd_lock, relock_c, relock_lock]; done) | fail)) | ((fail_if_success (with_reducible apply isT_of)); (fail_if_success (first | with_reducible refine nat_lt_id ?_ | with_reducible refine nat_le_id ?_ | with_reducible refine nat_ne_id ?_)); first | (simp +arith only [new_c, new_lock, upd_c, upd_lock, relock_c, relock_lock]; done) | (refine Nat.le_trans hL ?_; simp +arith only [new_c, new_lock, upd_c, upd_lock, relock_c, relock_lock]; done) | omega | (simp only [new_c, new_lock, upd_c, upd_lock, relock_c, relock_lock] <;> omega) | fail))) only [e0, e1, hz', hl0', ↓bindV_some, ↓bindS_some, ↓bindT_some, ↓condB_true, ↓condB_false, wV_true, wV_false, ↓wO_false, bindV_some, bindS_some, bindT_some, ↓gV_f, wrap64, ↓condK_B, wO_false, wO_val, pick_bool, bin_eql, bin_neq, un_not, pick_true, box_agg, cell_at, cells_at, put_cons, cellOf_row, cellsOf_row, putOf_row, nth_zero, nth_succ, aggOf_some, new_self, eq_self, new_upd, new_at, new_lo, new_c, new_lock, upd_self, relock_c, relock2, relock_id, qS_true, unlock_some, splice_nil, splice_cons, decide_true, decide_false, and_self, Bool.not_true, Bool.not_false, Nat.zero_add, List.length_cons, List.length_nil, List.drop_zero, List.take_succ_cons, List.take_zero, List.set_cons_zero, List.set_cons_succ, List.all_cons, List.all_nil, storable_int, storable_slice, Bool.and_self, Nat.reduceAdd, Nat.reduceSub, Nat.reduceMul, Nat.reduceLeDiff, Nat.reduceLT, Nat.reduceEqDiff, Int.reduceLE, Int.reduceLT, Int.reduceAdd, Int.reduceNeg, Int.reduceEq, Int.reduceSub, Int.reduceMul, Int.reduceToNat, Int.toNat_natCast, ↓reduceIte, Nat.le_refl, Bool.and_eq_true, reduceCtorEq, call_10, call_11, call_26, ld_23, st_23, len_23, ix_23, fa_26_6, ld_26, st_26, ld_32, al_26, bs_23_1_0, cv_5_3]
      exact ⟨_, rfl, rfl⟩
    have hl0' : ¬ ((c.entries.length : Int) = 0) := by omega
    by_cases hl16 : c.entries.length = 16
    · have hl16' : ((c.entries.length : Int) = 16) = True := eq_true (by omega)
      simp -implicitDefEqProofs (maxSteps := 1000000) (disch := (refine id ?_; first | with_reducible assumption | ((first | with_reducible refine nat_lt_id ?_ | with_reducible refine nat_le_id ?_ | with_reducible refine nat_ne_id ?_); (first | (simp +arith only [new_c, new_lock, upd_c, upd_lock, relock_c, relock_lock]; done) | (simp only [new_c, new_lock, upd_c, upd_lock, relock_c, relock_lock]; with_reducible assumption) | (refine Nat.le_trans hL ?_; simp +arith only [new_c, new_lock, upd_c, upd_lock, relock_c, relock_lock]; done) | fail)) | ((fail_if_success (with_reducible apply isT_of)); (fail_if_success (first | with_reducible refine nat_lt_id ?_ | with_reducible refine nat_le_id ?_ | with_reducible refine nat_ne_id ?_)); first | (simp +arith only [new_c, new_lock, upd_c, upd_lock, relock_c, relock_lock]; done) | (refine Nat.le_trans hL ?_; simp +arith only [new_c, new_lock, upd_c, upd_lock, relock_c, relock_lock]; done) | omega | (simp only [new_c, new_lock, upd_c, upd_lock, relock_c, relock_lock] <;> omega) | fail))) only [e0, e1, hz', hl0', hl16', ↓bindV_some, ↓bindS_some, ↓bindT_some, ↓condB_true, ↓condB_false, wV_true, wV_false, ↓wO_false, bindV_some, bindS_some, bindT_some, ↓gV_f, wrap64, ↓condK_B, wO_false, wO_val, pick_bool, bin_eql, bin_neq, un_not, pick_true, box_agg, cell_at, cells_at, put_cons, cellOf_row, cellsOf_row, putOf_row, nth_zero, nth_succ, aggOf_some, new_self, eq_self, new_upd, new_at, new_lo, new_c, new_lock, upd_self, relock_c, relock2, relock_id, qS_true, unlock_some, splice_nil, splice_cons, decide_true, decide_false, and_self, Bool.not_true, Bool.not_false, Nat.zero_add, List.length_cons, List.length_nil, List.drop_zero, List.take_succ_cons, List.take_zero, List.set_cons_zero, List.set_cons_succ, List.all_cons, List.all_nil, storable_int, storable_slice, Bool.and_self, Nat.reduceAdd, Nat.reduceSub, Nat.reduceMul, Nat.reduceLeDiff, Nat.reduceLT, Nat.reduceEqDiff, Int.reduceLE, Int.reduceLT, Int.reduceAdd, Int.reduceNeg, Int.reduceEq, Int.reduceSub, Int.reduceMul, Int.reduceToNat, Int.toNat_natCast, ↓reduceIte, Nat.le_refl, Bool.and_eq_true, reduceCtorEq, call_10, call_11, call_26, ld_23, st_23, len_23, ix_23, fa_26_6, ld_26, st_26, ld_32, al_26, bs_23_1_0, cv_5_3]
      exact ⟨_, rfl, rfl⟩
    have hl16' : ¬ ((c.entries.length : Int) = 16) := by omega
    simp -implicitDefEqProofs (maxSteps := 1000000) (disch := (refine id ?_; first | with_reducible assumption | ((first | with_reducible refine nat_lt_id ?_ | with_reducible refine nat_le_id ?_ | with_reducible refine nat_ne_id ?_); (first | (simp +arith only [new_c, new_lock, upd_c, upd_lock, relock_c, relock_lock]; done) | (simp only [new_c, new_lock, upd_c, upd_lock, relock_c, relock_lock]; with_reducible assumption) | (refine Nat.le_trans hL ?_; simp +arith only [new_c, new_lock, upd_c, upd_lock, relock_c, relock_lock]; done) | fail)) | ((fail_if_success (with_reducible apply isT_of)); (fail_if_success (first | with_reducible refine nat_lt_id ?_ | with_reducible refine nat_le_id ?_ | with_reducible refine nat_ne_id ?_)); first | (simp +arith only [new_c, new_lock, upd_c, upd_lock, relock_c, relock_lock]; done) | (refine Nat.le_trans hL ?_; simp +arith only [new_c, new_lock, upd_c, upd_lock, relock_c, relock_lock]; done) | omega | (simp only [new_c, new_lock, upd_c, upd_lock, relock_c, relock_lock] <;> omega) | fail))) only [e0, e1, hz', hl0', hl16', ↓bindV_some, ↓bindS_some, ↓bindT_some, ↓condB_true, ↓condB_false, wV_true, wV_false, ↓wO_false, bindV_some, bindS_some, bindT_some, ↓gV_f, wrap64, ↓condK_B, wO_false, wO_val, pick_bool, bin_eql, bin_neq, un_not, pick_true, box_agg, cell_at, cells_at, put_cons, cellOf_row, cellsOf_row, putOf_row, nth_zero, nth_succ, aggOf_some, new_self, eq_self, new_upd, new_at, new_lo, new_c, new_lock, upd_self, relock_c, relock2, relock_id, qS_true, unlock_some, splice_nil, splice_cons, decide_true, decide_false, and_self, Bool.not_true, Bool.not_false, Nat.zero_add, List.length_cons, List.length_nil, List.drop_zero, List.take_succ_cons, List.take_zero, List.set_cons_zero, List.set_cons_succ, List.all_cons, List.all_nil, storable_int, storable_slice, Bool.and_self, Nat.reduceAdd, Nat.reduceSub, Nat.reduceMul, Nat.reduceLeDiff, Nat.reduceLT, Nat.reduceEqDiff, Int.reduceLE, Int.reduceLT, Int.reduceAdd, Int.reduceNeg, Int.reduceEq, Int.reduceSub, Int.reduceMul, Int.reduceToNat, Int.toNat_natCast, ↓reduceIte, Nat.le_refl, Bool.and_eq_true, reduceCtorEq, call_10, call_11, call_26, ld_23, st_23, len_23, ix_23, fa_26_6, ld_26, st_26, ld_32, al_26, bs_23_1_0, cv_5_3]
    refine Wp.bS ((Copy_ok g1 c q hB h1).mono fun r hr => ?_)
    obtain ⟨v, S5⟩ := r
    obtain ⟨q', rfl, g5, w5, hO⟩ := hr
    dsimp only at g5 w5 hO ⊢
    have h5 := h1.low w5
    have hO' := hO
    have hcur := (hO.at g5 g1.n (Nat.le_refl _) hB).vlt
    obtain ⟨svs, m1, m2, m3, z1, z2, z3, z4, mD, eD, mI, pw, mN, mK⟩ := hO
    simp only [new_c] at z1
    have hk : x % c.entries.length < c.entries.length := Nat.mod_lt _ (by omega)
    have er : aBin p .rem 3 (.int .i64 (x : Int)) (.int .i64 (c.entries.length : Int)) = some (.int .i64 ((x % c.entries.length : Nat) : Int)) := by
      rw [bin_rem _ _ _ _ (by omega)]; rfl
    generalize x % c.entries.length = k at *
    have hkx : (k : Int) < (c.entries.length : Int) := by omega
    have hke := List.getElem_mem hk
    have tw := twins_check c hz hl16 c.entries[k] hke
    obtain ⟨be, oe, ce0, ee, hbe, hre⟩ := h5.ent.at (by omega)
    have e5 := (hre k hk).1
    rw [show NT.k = 4 from rfl, show NT.cs c.entries[k] = [.int .i64 c.entries[k].f, .int .u32 (c.entries[k].t : Int), .int .i64 c.entries[k].ph, .int .i64 c.entries[k].sz] from rfl] at e5
    clear hre
    generalize c.entries[k] = e at *
    have g6 : Gd W (S5.new (.row (ccs c q') 0)) := g5.new (objLt_mono (Nat.le_succ _) (cvl_obj hcur))
    have w6 : Low S5 (S5.new (.row (ccs c q') 0)) := Low.new (Low.rfl' _) _
    have hlt5 : S.c < S5.c := w5.2.1
    have hb6 : (S5.new (.row (ccs c q') 0)).heap S.c = .row (ccs c q) 0 := (w6.2.2 S.c hlt5).trans ((w5.2.2 S.c (Nat.lt_succ_self _)).trans hb1)
    have hN5 := g5.n
    have hL5 := g5.ok.1
    have hlk : S5.lock = S.lock := w5.1
    have e6 : (S5.new (.row (ccs c q') 0)).cells W ⟨be, oe + k * 4, none⟩ 4 = some [.int .i64 e.f, .int .u32 (e.t : Int), .int .i64 e.ph, .int .i64 e.sz] := by
      rw [cells_same (S := S5) (new_lo _ hbe)]; exact e5
    obtain ⟨ad0, cd0, ae0, ce1, al0, cl0⟩ := q
    injection ee with ee1 _ ee3
    simp only at ee1 ee3
    subst ee1
    simp -implicitDefEqProofs (maxSteps := 1000000) (disch := (refine id ?_; first | with_reducible assumption | ((first | with_reducible refine nat_lt_id ?_ | with_reducible refine nat_le_id ?_ | with_reducible refine nat_ne_id ?_); (first | (simp +arith only [new_c, new_lock, upd_c, upd_lock, relock_c, relock_lock]; done) | (simp only [new_c, new_lock, upd_c, upd_lock, relock_c, relock_lock]; with_reducible assumption) | (refine Nat.le_trans hL ?_; simp +arith only [new_c, new_lock, upd_c, upd_lock, relock_c, relock_lock]; done) | fail)) | ((fail_if_success (with_reducible apply isT_of)); (fail_if_success (first | with_reducible refine nat_lt_id ?_ | with_reducible refine nat_le_id ?_ | with_reducible refine nat_ne_id ?_)); first | (simp +arith only [new_c, new_lock, upd_c, upd_lock, relock_c, relock_lock]; done) | (refine Nat.le_trans hL ?_; simp +arith only [new_c, new_lock, upd_c, upd_lock, relock_c, relock_lock]; done) | omega | (simp only [new_c, new_lock, upd_c, upd_lock, relock_c, relock_lock] <;> omega) | fail))) only [hb6, er, e6, hkx, ↓bindV_some, ↓bindS_some, ↓bindT_some, ↓condB_true, ↓condB_false, wV_true, wV_false, ↓wO_false, bindV_some, bindS_some, bindT_some, ↓gV_f, wrap64, ↓condK_B, wO_false, wO_val, pick_bool, bin_eql, bin_neq, un_not, pick_true, box_agg, cell_at, cells_at, put_cons, cellOf_row, cellsOf_row, putOf_row, nth_zero, nth_succ, aggOf_some, new_self, eq_self, new_upd, new_at, new_lo, new_c, new_lock, upd_self, relock_c, relock2, relock_id, qS_true, unlock_some, splice_nil, splice_cons, decide_true, decide_false, and_self, Bool.not_true, Bool.not_false, Nat.zero_add, List.length_cons, List.length_nil, List.drop_zero, List.take_succ_cons, List.take_zero, List.set_cons_zero, List.set_cons_succ, List.all_cons, List.all_nil, storable_int, storable_slice, Bool.and_self, Nat.reduceAdd, Nat.reduceSub, Nat.reduceMul, Nat.reduceLeDiff, Nat.reduceLT, Nat.reduceEqDiff, Int.reduceLE, Int.reduceLT, Int.reduceAdd, Int.reduceNeg, Int.reduceEq, Int.reduceSub, Int.reduceMul, Int.reduceToNat, Int.toNat_natCast, ↓reduceIte, Nat.le_refl, Bool.and_eq_true, reduceCtorEq, call_10, call_11, call_26, ld_23, st_23, len_23, ix_23, fa_26_6, ld_26, st_26, ld_32, al_26, bs_23_1_0, cv_5_3]
    have g7 : Gd W ((S5.new (.row (ccs c q') 0)).new (.row (NT.fl [e]) 0)) := g6.new rfl
    have own5 := mN.own (by omega) (show S5.lock ≤ m2 by have := g1.ok.1; simp only [new_c, new_lock] at this; omega)
    have own7 : Sl NT ((S5.new (.row (ccs c q') 0)).new (.row (NT.fl [e]) 0)) (.slice q'.ae c.entries.length q'.ce) c.entries := (own5.new (o := .row (ccs c q') 0) g5.ok (objLt_mono (Nat.le_succ _) (cvl_obj hcur))).new g6.ok rfl
    have hblk : ∀ i, i ∈ blkOf (.slice q'.ae c.entries.length q'.ce) → m2 ≤ i ∧ i < m3 := by
      rcases mN with ⟨_, _, _, e', _⟩ | ⟨b, e', _, h1', h2', _⟩
      · rw [e'] at hl0; exact absurd rfl hl0
      · intro i hi
        rw [e'] at hi
        simp only [blkOf, List.mem_singleton] at hi
        omega
    refine Wp.grow (T := NT) (new := [e]) g7 elc23 own7 (src_made Try.underlying23 (sz := 4) (n := 1) g6 (l := NT.fl [e]) rfl (by decide) 0) rfl (by have := hB.le; simp only [List.length_cons, List.length_nil]; omega) fun v' S8 g8 sl8 x8 fr8 => ?_
    have hk1 := sl8.rd g8
    have hv8 := hk1.vlt
    obtain ⟨a8, c8, rfl⟩ := sl8.form
    have hc8 : S5.c + 1 + 1 ≤ S8.c := x8.c
    have hb8 : S8.heap S5.c = .row (ccs c q') 0 := by
      rw [x8.same S5.c (by simp only [new_c]; omega) (fun hh => by have := hblk _ hh; omega), new_lo _ (by simp only [new_c]; omega)]
      exact new_self _
    have hL8 : S8.lock ≤ S5.c := by rw [x8.lock]; exact hL5
    have kp : ∀ i, i < S5.c → i < m2 ∨ m3 ≤ i → ∀ o, (S8.upd S5.c o).heap i = S5.heap i := fun i h1' h2' o => by
      rw [upd_ne _ (by omega), x8.same i (by simp only [new_c]; omega) (fun hh => by have := hblk _ hh; omega), new_lo _ (by simp only [new_c]; omega), new_lo _ h1']
    obtain ⟨ad, cd, ae, ce, al, cl⟩ := q'
    dsimp only at mD mN mK
    have hv : vlt1 S8.c (.slice ad c.delays.length cd) = true ∧ vlt1 S8.c (.slice al c.links.length cl) = true := by
      rw [vlt_agg] at hcur
      simp only [List.all_cons, List.all_nil, Bool.and_eq_true] at hcur
      exact ⟨vlt1_mono (by omega) hcur.2.2.2.2.2.1, vlt1_mono (by omega) hcur.2.2.2.2.2.2.2.1⟩
    have hob : objLt S8.c (.row [.int .i64 c.hosts, .int .i64 c.cycle, .int .i64 c.delay, .int .i64 c.window, .int .i64 c.prec, .slice ad c.delays.length cd, .slice a8 (c.entries ++ [e]).length c8, .slice al c.links.length cl, .int .i64 c.queue] 0) = true := by
      simp only [objLt_row, List.all_cons, List.all_nil, vlt1_int, hv8, hv.1, hv.2, Bool.and_self]
    have x9 : Ext [S5.c] S8 (S8.upd S5.c (.row [.int .i64 c.hosts, .int .i64 c.cycle, .int .i64 c.delay, .int .i64 c.window, .int .i64 c.prec, .slice ad c.delays.length cd, .slice a8 (c.entries ++ [e]).length c8, .slice al c.links.length cl, .int .i64 c.queue] 0)) := Ext.upd g8.ok (by omega) hob
    have g9 := x9.good g8
    have h9 : CfgAt W (S8.upd S5.c (.row [.int .i64 c.hosts, .int .i64 c.cycle, .int .i64 c.delay, .int .i64 c.window, .int .i64 c.prec, .slice ad c.delays.length cd, .slice a8 (c.entries ++ [e]).length c8, .slice al c.links.length cl, .int .i64 c.queue] 0)) (withE c (c.entries ++ [e])) ⟨ad, cd, a8, c8, al, cl⟩ := by
      refine ⟨⟨svs, (mD.keep fun i h1' h2' => kp i (by omega) (.inl (by omega)) _).rd g9 g1.n (by simp only [upd_c]; omega), eD, fun s hs => ((mI s hs).keep fun i h1' h2' => kp i (by omega) (.inl (by omega)) _).rd g9 (by omega) (by simp only [upd_c]; omega)⟩, ?_, (mK.keep fun i h1' h2' => kp i (by omega) (.inr (by omega)) _).rd g9 (by omega) (by simp only [upd_c]; omega), h.ld, h.ldd, ?_, h.ll, ?_, h.lt⟩
      · refine hk1.ext x9 fun i hi => ?_
        rw [List.mem_singleton]
        have := fr8 i hi
        simp only [new_c] at this
        omega
      · show (c.entries ++ [e]).length ≤ _
        have := hB.le
        rw [List.length_append, List.length_singleton]
        omega
      · intro e' he'
        rcases List.mem_append.1 he' with he' | he'
        · exact h.et e' he'
        · rw [List.mem_singleton] at he'
          subst he'
          exact h.et _ hke
    have e9 : cw W 11 #[(.agg #[.int .i64 c.hosts, .int .i64 c.cycle, .int .i64 c.delay, .int .i64 c.window, .int .i64 c.prec, .slice ad c.delays.length cd, .slice a8 (c.entries ++ [e]).length c8, .slice al c.links.length cl, .int .i64 c.queue])] (S8.upd S5.c (.row [.int .i64 c.hosts, .int .i64 c.cycle, .int .i64 c.delay, .int .i64 c.window, .int .i64 c.prec, .slice ad c.delays.length cd, .slice a8 (c.entries ++ [e]).length c8, .slice al c.links.length cl, .int .i64 c.queue] 0)) = some (i64 7, (S8.upd S5.c (.row [.int .i64 c.hosts, .int .i64 c.cycle, .int .i64 c.delay, .int .i64 c.window, .int .i64 c.prec, .slice ad c.delays.length cd, .slice a8 (c.entries ++ [e]).length c8, .slice al c.links.length cl, .int .i64 c.queue] 0))) := by
      have := Check_eq g9 _ _ h9
      rw [tw] at this
      exact this
    clear x9 g9 h9 hob kp
    generalize (c.entries ++ [e]).length = n9 at e9 hv8 ⊢
    simp -implicitDefEqProofs (maxSteps := 1000000) (disch := (refine id ?_; first | with_reducible assumption | ((first | with_reducible refine nat_lt_id ?_ | with_reducible refine nat_le_id ?_ | with_reducible refine nat_ne_id ?_); (first | (simp +arith only [new_c, new_lock, upd_c, upd_lock, relock_c, relock_lock]; done) | (simp only [new_c, new_lock, upd_c, upd_lock, relock_c, relock_lock]; with_reducible assumption) | (refine Nat.le_trans hL ?_; simp +arith only [new_c, new_lock, upd_c, upd_lock, relock_c, relock_lock]; done) | fail)) | ((fail_if_success (with_reducible apply isT_of)); (fail_if_success (first | with_reducible refine nat_lt_id ?_ | with_reducible refine nat_le_id ?_ | with_reducible refine nat_ne_id ?_)); first | (simp +arith only [new_c, new_lock, upd_c, upd_lock, relock_c, relock_lock]; done) | (refine Nat.le_trans hL ?_; simp +arith only [new_c, new_lock, upd_c, upd_lock, relock_c, relock_lock]; done) | omega | (simp only [new_c, new_lock, upd_c, upd_lock, relock_c, relock_lock] <;> omega) | fail))) only [hb8, e9, ↓bindV_some, ↓bindS_some, ↓bindT_some, ↓condB_true, ↓condB_false, wV_true, wV_false, ↓wO_false, bindV_some, bindS_some, bindT_some, ↓gV_f, wrap64, ↓condK_B, wO_false, wO_val, pick_bool, bin_eql, bin_neq, un_not, pick_true, box_agg, cell_at, cells_at, put_cons, cellOf_row, cellsOf_row, putOf_row, nth_zero, nth_succ, aggOf_some, new_self, eq_self, new_upd, new_at, new_lo, new_c, new_lock, upd_self, relock_c, relock2, relock_id, qS_true, unlock_some, splice_nil, splice_cons, decide_true, decide_false, and_self, Bool.not_true, Bool.not_false, Nat.zero_add, List.length_cons, List.length_nil, List.drop_zero, List.take_succ_cons, List.take_zero, List.set_cons_zero, List.set_cons_succ, List.all_cons, List.all_nil, storable_int, storable_slice, Bool.and_self, Nat.reduceAdd, Nat.reduceSub, Nat.reduceMul, Nat.reduceLeDiff, Nat.reduceLT, Nat.reduceEqDiff, Int.reduceLE, Int.reduceLT, Int.reduceAdd, Int.reduceNeg, Int.reduceEq, Int.reduceSub, Int.reduceMul, Int.reduceToNat, Int.toNat_natCast, ↓reduceIte, Nat.le_refl, Bool.and_eq_true, reduceCtorEq, call_10, call_11, call_26, ld_23, st_23, len_23, ix_23, fa_26_6, ld_26, st_26, ld_32, al_26, bs_23_1_0, cv_5_3]
    exact ⟨_, rfl, rfl⟩
  · simp -implicitDefEqProofs (maxSteps := 1000000) (disch := (refine id ?_; first | with_reducible assumption | ((first | with_reducible refine nat_lt_id ?_ | with_reducible refine nat_le_id ?_ | with_reducible refine nat_ne_id ?_); (first | (simp +arith only [new_c, new_lock, upd_c, upd_lock, relock_c, relock_lock]; done) | (simp only [new_c, new_lock, upd_c, upd_lock, relock_c, relock_lock]; with_reducible assumption) | (refine Nat.le_trans hL ?_; simp +arith only [new_c, new_lock, upd_c, upd_lock, relock_c, relock_lock]; done) | fail)) | ((fail_if_success (with_reducible apply isT_of)); (fail_if_success (first | with_reducible refine nat_lt_id ?_ | with_reducible refine nat_le_id ?_ | with_reducible refine nat_ne_id ?_)); first | (simp +arith only [new_c, new_lock, upd_c, upd_lock, relock_c, relock_lock]; done) | (refine Nat.le_trans hL ?_; simp +arith only [new_c, new_lock, upd_c, upd_lock, relock_c, relock_lock]; done) | omega | (simp only [new_c, new_lock, upd_c, upd_lock, relock_c, relock_lock] <;> omega) | fail))) only [e0, e1, hz, ↓bindV_some, ↓bindS_some, ↓bindT_some, ↓condB_true, ↓condB_false, wV_true, wV_false, ↓wO_false, bindV_some, bindS_some, bindT_some, ↓gV_f, wrap64, ↓condK_B, wO_false, wO_val, pick_bool, bin_eql, bin_neq, un_not, pick_true, box_agg, cell_at, cells_at, put_cons, cellOf_row, cellsOf_row, putOf_row, nth_zero, nth_succ, aggOf_some, new_self, eq_self, new_upd, new_at, new_lo, new_c, new_lock, upd_self, relock_c, relock2, relock_id, qS_true, unlock_some, splice_nil, splice_cons, decide_true, decide_false, and_self, Bool.not_true, Bool.not_false, Nat.zero_add, List.length_cons, List.length_nil, List.drop_zero, List.take_succ_cons, List.take_zero, List.set_cons_zero, List.set_cons_succ, List.all_cons, List.all_nil, storable_int, storable_slice, Bool.and_self, Nat.reduceAdd, Nat.reduceSub, Nat.reduceMul, Nat.reduceLeDiff, Nat.reduceLT, Nat.reduceEqDiff, Int.reduceLE, Int.reduceLT, Int.reduceAdd, Int.reduceNeg, Int.reduceEq, Int.reduceSub, Int.reduceMul, Int.reduceToNat, Int.toNat_natCast, ↓reduceIte, Nat.le_refl, Bool.and_eq_true, reduceCtorEq, call_10, call_11, call_26, ld_23, st_23, len_23, ix_23, fa_26_6, ld_26, st_26, ld_32, al_26, bs_23_1_0, cv_5_3]
    exact ⟨_, rfl, rfl⟩
theorem twins_law' (g : Gd W S) (c : Cfg) (q : Pl) (h : CfgAt W S c q) (hB : CfgB c) (hR : CfgR c) (x : Int) (w : (Lit.int .u8 x).wf = true) : Wp (cw W 9 #[cvl c q, .int .u8 x] S) fun r => r.1 = .bool true := by
  obtain ⟨⟨n, hn⟩, rfl⟩ := u8_nat w
  exact twins_law g c q h hB hR n hn
end
end Go.Proofs.Ytogcdgdnjinjkaa.F
end
section
namespace Go.Proofs.Ytogcdgdnjinjkaa.F
open Go Go.Proofs.Ytogcdgdnjinjkaa.E
set_option linter.unusedVariables false
set_option linter.unusedSimpArgs false
section
variable {W : World} {S : St}
set_option maxRecDepth 100000 in
set_option maxHeartbeats 2000000 in
theorem fw_round (g : Gd W S) (c : Cfg) (q : Pl) {bc : Nat} (hW : W.heap.size ≤ bc) (hq : vlt S.c (cvl c q) = true) (hb : S.heap bc = .row (ccs c q) 0) {be : Nat} (a b : En) (hat : a.t < 4294967296) (hbt : b.t < 4294967296) (he : S.heap be = (.row [.int .i64 a.f, .int .u32 (a.t : Int), .int .i64 a.ph, .int .i64 a.sz] 0)) (hWe : W.heap.size ≤ be) (ra : 0 ≤ a.ph ∧ a.ph ≤ 1073741824) (rb : 0 ≤ b.ph ∧ b.ph ≤ 1073741824) (hs : same a b = false) (ho : both c a b = false) (ve : Value) (bw ow n cw0 : Nat) (i j : Nat) (hi : i ≤ 2 ^ 60) (hj : j < i) (e5 : S.cells W ⟨bw, ow + j * 4, none⟩ 4 = some [.int .i64 b.f, .int .u32 (b.t : Int), .int .i64 b.ph, .int .i64 b.sz]) (y0 y5 y11 y12 y13 y14 y15 y16 y20 y21 y22 y23 y24 y25 y26 y91 : Value) :
    bindO (l5_11101001100110 W y0 (.pointer (some ⟨bc, 0, none⟩)) (.int .i64 (i : Int)) (.pointer (some ⟨be, 0, none⟩)) y5 y11 y12 y13 y14 y15 y16 ve (.int .i64 (c.entries.length : Int)) (.int .i64 (i : Int)) y20 y21 y22 y23 y24 y25 y26 (.slice (some ⟨bw, ow, none⟩) i cw0) (.int .i64 (i : Int)) (.int .i64 (j : Int)) y91 S) (fun e A S => bindO (rk W c5_111010 [1, 1, 0, 0, 1, 1, 0] e A S) (kc W c5 [1, 1, 1, 0, 1, 0] f5)) = bindO (l5_11101001100110 W y0 (.pointer (some ⟨bc, 0, none⟩)) (.int .i64 (i : Int)) (.pointer (some ⟨be, 0, none⟩)) y5 y11 y12 y13 y14 y15 y16 ve (.int .i64 (c.entries.length : Int)) (.int .i64 (i : Int)) y20 y21 y22 y23 y24 y25 y26 (.slice (some ⟨bw, ow, none⟩) i cw0) (.int .i64 (i : Int)) (.int .i64 ((j + 1 : Nat) : Int)) y91 (S.new (.row [.int .i64 b.f, .int .u32 (b.t : Int), .int .i64 b.ph, .int .i64 b.sz] 0))) (fun e A S => bindO (rk W c5_111010 [1, 1, 0, 0, 1, 1, 0] e A S) (kc W c5 [1, 1, 1, 0, 1, 0] f5)) := by
  have hlt := row_lt g.ok hb
  have hlte := row_lt g.ok he
  have ta := tm_rng a.sz
  have tb := tm_rng b.sz
  have fa := fwd_rng c a
  have fb := fwd_rng c b
  have hx : (j : Int) < (i : Int) := by omega
  have e2 : IntKind.i64.wrap ((j : Int) + 1) = ((j + 1 : Nat) : Int) := by rw [wrap64 (by omega) (by omega)]; omega
  have g1 : Gd W (S.new (.row [.int .i64 b.f, .int .u32 (b.t : Int), .int .i64 b.ph, .int .i64 b.sz] 0)) := g.new rfl
  have hb1 : (S.new (.row [.int .i64 b.f, .int .u32 (b.t : Int), .int .i64 b.ph, .int .i64 b.sz] 0)).heap bc = S.heap bc := new_lo _ hlt
  have he1 : (S.new (.row [.int .i64 b.f, .int .u32 (b.t : Int), .int .i64 b.ph, .int .i64 b.sz] 0)).heap be = S.heap be := new_lo _ hlte
  have et := fun (U : St) (gU : Gd W U) (z : Int) => time_eq gU z
  have ea := fun (U : St) (gU : Gd W U) (hU : vlt U.c (cvl c q) = true) => Forward_eq gU c q hU a hat
  have eb := fun (U : St) (gU : Gd W U) (hU : vlt U.c (cvl c q) = true) => Forward_eq gU c q hU b hbt
  have hq1 : vlt (S.c + 1) (cvl c q) = true := vlt_mono (by omega) hq
  have hand := and_nat a.t b.t hat hbt
  have h0 : (((a.t &&& b.t : Nat) : Int) = 0) = ((a.t &&& b.t) = 0) := by simp
  unfold same meets at hs
  unfold both meets at ho
  generalize forward c a = xa at *
  generalize forward c b = xb at *
  have k1 : IntKind.i64.wrap (xb + tm b.sz) = xb + tm b.sz := wrap64 (by omega) (by omega)
  have k2 : IntKind.i64.wrap (xa + tm a.sz) = xa + tm a.sz := wrap64 (by omega) (by omega)
  have k3 : IntKind.i64.wrap (b.ph + tm b.sz) = b.ph + tm b.sz := wrap64 (by omega) (by omega)
  have k4 : IntKind.i64.wrap (a.ph + tm a.sz) = a.ph + tm a.sz := wrap64 (by omega) (by omega)
  have hN := g.n; have hL : S.lock ≤ S.c := g.ok.1
  rw [r5_11101001100110]
  simp -implicitDefEqProofs (maxSteps := 1000000) (disch := (refine id ?_; first | with_reducible assumption | (with_reducible refine IsT.left ?_; with_reducible assumption) | (with_reducible refine IsT.left (IsT.left ?_); with_reducible assumption) | ((first | with_reducible refine nat_lt_id ?_ | with_reducible refine nat_le_id ?_ | with_reducible refine nat_ne_id ?_); (first | (simp +arith only [new_c, new_lock, upd_c, upd_lock, relock_c, relock_lock]; done) | (simp only [new_c, new_lock, upd_c, upd_lock, relock_c, relock_lock]; with_reducible assumption) | (refine Nat.le_trans hN ?_; simp +arith only [new_c, new_lock, upd_c, upd_lock, relock_c, relock_lock]; done) | (refine Nat.le_trans hL ?_; simp +arith only [new_c, new_lock, upd_c, upd_lock, relock_c, relock_lock]; done) | (apply Nat.lt_of_lt_of_le; with_reducible assumption; simp +arith only [new_c, new_lock, upd_c, upd_lock, relock_c, relock_lock]; done) | (apply Nat.ne_of_lt; apply Nat.lt_of_lt_of_le; with_reducible assumption; simp +arith only [new_c, new_lock, upd_c, upd_lock, relock_c, relock_lock]; done) | fail)) | ((fail_if_success (with_reducible apply isT_of)); (fail_if_success (first | with_reducible refine nat_lt_id ?_ | with_reducible refine nat_le_id ?_ | with_reducible refine nat_ne_id ?_)); first | (simp +arith only [new_c, new_lock, upd_c, upd_lock, relock_c, relock_lock]; done) | (refine Nat.le_trans hN ?_; simp +arith only [new_c, new_lock, upd_c, upd_lock, relock_c, relock_lock]; done) | (refine Nat.le_trans hL ?_; simp +arith only [new_c, new_lock, upd_c, upd_lock, relock_c, relock_lock]; done) | omega | (with_reducible apply Gd.cl; with_reducible assumption) | (simp only [new_c, new_lock, upd_c, upd_lock, relock_c, relock_lock] <;> omega) | with_reducible exact Low.rfl' _ | (with_reducible refine Low.new ?_ _; (repeat (first | with_reducible exact Low.rfl' _ | with_reducible assumption | refine Low.new ?_ _ | refine Low.upd ?_ (by (first | omega | (simp only [new_c, upd_c, relock_c] <;> omega))) _)); done) | (with_reducible refine Low.upd ?_ (by (first | omega | (simp only [new_c, upd_c, relock_c] <;> omega))) _; (repeat (first | with_reducible exact Low.rfl' _ | with_reducible assumption | refine Low.new ?_ _ | refine Low.upd ?_ (by (first | omega | (simp only [new_c, upd_c, relock_c] <;> omega))) _)); done) | (with_reducible refine Gd.new ?_ (by (simp only [objLt_row, objLt_dead, List.all_cons, List.all_nil, vlt1_int, vlt1_bool, vlt1_string, vlt1_nilp, vlt1_nils, vlt1_ptr, vlt1_sl, vlt1_func, vlt0_ptr, vlt0_sl, vlt0_int, vlt0_bool, vlt0_string, vlt0_nilp, vlt0_nils, vlt_int, vlt_bool, vlt_string, vlt_nilp, vlt_nils, vlt_ptr, vlt_sl, vlt_agg, vlt_func, List.toArray, Bool.and_true, Bool.true_and, Bool.and_self, Bool.and_eq_true, decide_eq_true_eq, and_true, true_and, new_c, upd_c, relock_c] <;> omega)); (repeat (first | with_reducible assumption | refine Gd.new ?_ (by (simp only [objLt_row, objLt_dead, List.all_cons, List.all_nil, vlt1_int, vlt1_bool, vlt1_string, vlt1_nilp, vlt1_nils, vlt1_ptr, vlt1_sl, vlt1_func, vlt0_ptr, vlt0_sl, vlt0_int, vlt0_bool, vlt0_string, vlt0_nilp, vlt0_nils, vlt_int, vlt_bool, vlt_string, vlt_nilp, vlt_nils, vlt_ptr, vlt_sl, vlt_agg, vlt_func, List.toArray, Bool.and_true, Bool.true_and, Bool.and_self, Bool.and_eq_true, decide_eq_true_eq, and_true, true_and, new_c, upd_c, relock_c] <;> omega)) | refine Gd.upd ?_ (by (first | omega | (simp only [new_c, upd_c, relock_c] <;> omega))) (by (simp only [objLt_row, objLt_dead, List.all_cons, List.all_nil, vlt1_int, vlt1_bool, vlt1_string, vlt1_nilp, vlt1_nils, vlt1_ptr, vlt1_sl, vlt1_func, vlt0_ptr, vlt0_sl, vlt0_int, vlt0_bool, vlt0_string, vlt0_nilp, vlt0_nils, vlt_int, vlt_bool, vlt_string, vlt_nilp, vlt_nils, vlt_ptr, vlt_sl, vlt_agg, vlt_func, List.toArray, Bool.and_true, Bool.true_and, Bool.and_self, Bool.and_eq_true, decide_eq_true_eq, and_true, true_and, new_c, upd_c, relock_c] <;> omega)) | refine Gd.relock ?_)); done) | (with_reducible refine Gd.relock2 ?_ ?_; rotate_left; simp only [new_c, upd_c, relock_c]; (repeat (first | with_reducible assumption | refine Gd.new ?_ (by (simp only [objLt_row, objLt_dead, List.all_cons, List.all_nil, vlt1_int, vlt1_bool, vlt1_string, vlt1_nilp, vlt1_nils, vlt1_ptr, vlt1_sl, vlt1_func, vlt0_ptr, vlt0_sl, vlt0_int, vlt0_bool, vlt0_string, vlt0_nilp, vlt0_nils, vlt_int, vlt_bool, vlt_string, vlt_nilp, vlt_nils, vlt_ptr, vlt_sl, vlt_agg, vlt_func, List.toArray, Bool.and_true, Bool.true_and, Bool.and_self, Bool.and_eq_true, decide_eq_true_eq, and_true, true_and, new_c, upd_c, relock_c] <;> omega)) | refine Gd.upd ?_ (by (first | omega | (simp only [new_c, upd_c, relock_c] <;> omega))) (by (simp only [objLt_row, objLt_dead, List.all_cons, List.all_nil, vlt1_int, vlt1_bool, vlt1_string, vlt1_nilp, vlt1_nils, vlt1_ptr, vlt1_sl, vlt1_func, vlt0_ptr, vlt0_sl, vlt0_int, vlt0_bool, vlt0_string, vlt0_nilp, vlt0_nils, vlt_int, vlt_bool, vlt_string, vlt_nilp, vlt_nils, vlt_ptr, vlt_sl, vlt_agg, vlt_func, List.toArray, Bool.and_true, Bool.true_and, Bool.and_self, Bool.and_eq_true, decide_eq_true_eq, and_true, true_and, new_c, upd_c, relock_c] <;> omega)) | refine Gd.relock ?_)); done) | (with_reducible refine nat_eq_id ?_; first | with_reducible rfl | (simp only [new_lock, upd_lock, relock_lock, new_c, upd_c, relock_c]; done)) | (simp (disch := (simp only [new_c, upd_c, relock_c] <;> omega)) only [new_at, new_lo, upd_self, upd_lo, relock_heap]; done) | (with_reducible refine Rd.low (by with_reducible assumption) ?_; (repeat (first | with_reducible exact Low.rfl' _ | with_reducible assumption | refine Low.new ?_ _ | refine Low.upd ?_ (by (first | omega | (simp only [new_c, upd_c, relock_c] <;> omega))) _)); done) | (simp only [flatR_int, flatR_bool, flatR_string, flatR_tuple, flatR_agg, flat_int, flat_bool, flat_string, flat_agg, flat0_int, flat0_bool, flat0_string, List.all_cons, List.all_nil, Bool.and_self, Bool.and_true, Bool.true_and]; done) | ((first | with_reducible refine int_lt_id ?_ | with_reducible refine int_le_id ?_); simp only [IsT, decide_eq_true_eq, Bool.and_eq_true, Bool.or_eq_true, Bool.not_eq_true', decide_eq_false_iff_not] at *; omega) | (simp only [objLt_row, objLt_dead, List.all_cons, List.all_nil, vlt1_int, vlt1_bool, vlt1_string, vlt1_nilp, vlt1_nils, vlt1_ptr, vlt1_sl, vlt1_func, vlt0_ptr, vlt0_sl, vlt0_int, vlt0_bool, vlt0_string, vlt0_nilp, vlt0_nils, vlt_int, vlt_bool, vlt_string, vlt_nilp, vlt_nils, vlt_ptr, vlt_sl, vlt_agg, vlt_func, List.toArray, Bool.and_true, Bool.true_and, Bool.and_self, Bool.and_eq_true, decide_eq_true_eq, and_true, true_and, new_c, upd_c, relock_c]; (try omega); done) | fail))) only [hb1, he1, hb, he, hx, e2, e5, et, ea, eb, hq1, hand, h0, k1, k2, k3, k4, ↓bindV_some, ↓bindS_some, ↓bindT_some, ↓bindO_some, ↓condB_true, bindV_some, bindS_some, bindT_some, bindO_some, ↓gV_t, ↓gV_f, gV_wt, wV_wV, wV_and, wrap64, ↓condK_B, wV_pos, wO_val, pick_and, pick_or, bindO_B, bin_add, bin_lss, bin_eql, bin_neq, bin_and, cell_at, cells_at, put_cons, cellOf_row, cellsOf_row, putOf_row, nth_zero, nth_succ, aggOf_some, eq_self, new_upd, new_at, new_lo, new_c, new_lock, relock2, relock_id, qS_true, unlock_some, splice_nil, splice_cons, decide_true, and_self, Nat.zero_add, List.length_cons, List.length_nil, List.drop_zero, List.take_succ_cons, List.take_zero, List.set_cons_zero, List.set_cons_succ, List.all_cons, List.all_nil, storable_int, Bool.and_self, Nat.reduceAdd, Nat.reduceSub, Nat.reduceMul, Nat.reduceLeDiff, Nat.reduceLT, Nat.reduceEqDiff, Int.reduceLE, Int.reduceLT, Int.reduceAdd, Int.reduceNeg, Int.reduceEq, Int.reduceSub, Int.reduceMul, Int.reduceToNat, Int.toNat_natCast, ↓reduceIte, Nat.le_refl, decide_eq_true_eq, Bool.not_eq_true', Bool.and_eq_true, Bool.or_eq_true, decide_eq_false_iff_not, reduceCtorEq, call_16, call_21, ld_2, ld_3, ix_23, ld_26, ld_30, fa_32_0, fa_32_1, fa_32_2, fa_32_3, ld_32, st_32, al_32]
  rw [condB_neg]
  simp only [Bool.and_eq_false_iff, decide_eq_false_iff_not] at hs ho
  rintro (h | h)
  · rcases ho with ho | ho
    · exact ho h.1.1
    · exact ho ⟨h.1.2, h.2⟩
  · rcases hs with hs | hs
    · exact hs h.1.1
    · exact hs ⟨h.1.2, h.2⟩
set_option maxRecDepth 100000 in
set_option maxHeartbeats 1000000 in
theorem fw_end (g : Gd W S) (c : Cfg) {bc be : Nat} (ve w : Value) (i j : Nat) (hi : i < 2 ^ 60) (hj : ¬ j < i) (y0 y5 y11 y12 y13 y14 y15 y16 y20 y21 y22 y23 y24 y25 y26 y91 : Value) :
    bindO (l5_11101001100110 W y0 (.pointer (some ⟨bc, 0, none⟩)) (.int .i64 (i : Int)) (.pointer (some ⟨be, 0, none⟩)) y5 y11 y12 y13 y14 y15 y16 ve (.int .i64 (c.entries.length : Int)) (.int .i64 (i : Int)) y20 y21 y22 y23 y24 y25 y26 w (.int .i64 (i : Int)) (.int .i64 (j : Int)) y91 S) (fun e A S => bindO (rk W c5_111010 [1, 1, 0, 0, 1, 1, 0] e A S) (kc W c5 [1, 1, 1, 0, 1, 0] f5)) = bindO (l5_111010 W y0 (.pointer (some ⟨bc, 0, none⟩)) y5 y11 y12 y13 y14 y15 y16 ve (.int .i64 (c.entries.length : Int)) (.int .i64 ((i + 1 : Nat) : Int)) S) (kc W c5 [1, 1, 1, 0, 1, 0] f5) := by
  have hx : ¬ (j : Int) < (i : Int) := by omega
  have e2 : IntKind.i64.wrap ((i : Int) + 1) = ((i + 1 : Nat) : Int) := by rw [wrap64 (by omega) (by omega)]; omega
  have hN := g.n; have hL : S.lock ≤ S.c := g.ok.1
  rw [r5_11101001100110]
  simp -implicitDefEqProofs (maxSteps := 1000000) (disch := (refine id ?_; first | with_reducible assumption | ((first | with_reducible refine nat_lt_id ?_ | with_reducible refine nat_le_id ?_ | with_reducible refine nat_ne_id ?_); (first | (simp +arith only [new_c, new_lock, upd_c, upd_lock, relock_c, relock_lock]; done) | (simp only [new_c, new_lock, upd_c, upd_lock, relock_c, relock_lock]; with_reducible assumption) | (refine Nat.le_trans hN ?_; simp +arith only [new_c, new_lock, upd_c, upd_lock, relock_c, relock_lock]; done) | (refine Nat.le_trans hL ?_; simp +arith only [new_c, new_lock, upd_c, upd_lock, relock_c, relock_lock]; done) | (apply Nat.lt_of_lt_of_le; with_reducible assumption; simp +arith only [new_c, new_lock, upd_c, upd_lock, relock_c, relock_lock]; done) | (apply Nat.ne_of_lt; apply Nat.lt_of_lt_of_le; with_reducible assumption; simp +arith only [new_c, new_lock, upd_c, upd_lock, relock_c, relock_lock]; done) | fail)) | ((fail_if_success (with_reducible apply isT_of)); (fail_if_success (first | with_reducible refine nat_lt_id ?_ | with_reducible refine nat_le_id ?_ | with_reducible refine nat_ne_id ?_)); first | (simp +arith only [new_c, new_lock, upd_c, upd_lock, relock_c, relock_lock]; done) | (refine Nat.le_trans hN ?_; simp +arith only [new_c, new_lock, upd_c, upd_lock, relock_c, relock_lock]; done) | (refine Nat.le_trans hL ?_; simp +arith only [new_c, new_lock, upd_c, upd_lock, relock_c, relock_lock]; done) | omega | (simp only [new_c, new_lock, upd_c, upd_lock, relock_c, relock_lock] <;> omega) | (simp (disch := (simp only [new_c, upd_c, relock_c] <;> omega)) only [new_at, new_lo, upd_self, upd_lo, relock_heap]; done) | fail))) only [hx, e2, k5_11101001100110_2, ↓bindV_some, ↓bindS_some, ↓bindO_some, ↓condB_false, bindV_some, bindS_some, bindO_some, wrap64, ↓condK_B, wO_val, bin_add, bin_lss, cell_at, cells_at, eq_self, qS_true, decide_false, Nat.zero_add, Nat.reduceAdd, Nat.reduceSub, Nat.reduceMul, Nat.reduceLeDiff, Nat.reduceLT, Nat.reduceEqDiff, Int.reduceLE, Int.reduceLT, Int.reduceAdd, Int.reduceNeg, Int.reduceEq, Int.reduceSub, Int.reduceMul, Int.reduceToNat, ↓reduceIte, reduceCtorEq, call_16, call_21, ld_3, ld_26, ld_30, fa_32_0, fa_32_1, fa_32_2, fa_32_3, ld_32, al_32]
end
end Go.Proofs.Ytogcdgdnjinjkaa.F
end
section
namespace Go.Proofs.Ytogcdgdnjinjkaa.F
open Go Go.Proofs.Ytogcdgdnjinjkaa.E
set_option linter.unusedVariables false
set_option linter.unusedSimpArgs false
section
variable {W : World} {S : St}
theorem pairsB_false (bad : En → En → Bool) : ∀ (l pre : List En), pairsB bad pre l = false → ∀ (i : Nat) (hi : i < l.length), ∀ b ∈ pre ++ l.take i, bad l[i] b = false
  | [], pre, _, i, hi, _, _ => by cases hi
  | a :: l, pre, h, 0, hi, b, hb => by
    rw [pairsB, Bool.or_eq_false_iff] at h
    rw [List.take_zero, List.append_nil] at hb
    simpa using List.any_eq_false.1 h.1 b hb
  | a :: l, pre, h, i + 1, hi, b, hb => by
    rw [pairsB, Bool.or_eq_false_iff] at h
    have := pairsB_false bad l (pre ++ [a]) h.2 i (by simpa using hi) b (by rw [List.append_assoc]; exact hb)
    simpa using this
set_option maxRecDepth 100000 in
theorem fw_inner (S0 : St) (g0 : Gd W S0) (c : Cfg) (q : Pl) {bc : Nat} (hW : W.heap.size ≤ bc) (hB : c.entries.length ≤ 2 ^ 59) (het : ∀ e ∈ c.entries, e.t < 4294967296) (hph : ∀ e ∈ c.entries, 0 ≤ e.ph ∧ e.ph ≤ 1073741824) (hq0 : vlt S0.c (cvl c q) = true) (hb0 : S0.heap bc = .row (ccs c q) 0) {be : Nat} (hWe : W.heap.size ≤ be) (a : En) (ha : a ∈ c.entries) (he0 : S0.heap be = (.row [.int .i64 a.f, .int .u32 (a.t : Int), .int .i64 a.ph, .int .i64 a.sz] 0)) (ve w : Value) (i : Nat) (hi : i ≤ c.entries.length) (rdw : Rd NT W S0 w (c.entries.take i)) (hok : ∀ b ∈ c.entries.take i, same a b = false ∧ both c a b = false) {Q : Value × St → Prop}
    (K : ∀ S, Gd W S → Low S0 S → ∀ y0 y5 y11 y12 y13 y14 y15 y16, Wp (bindO (l5_111010 W y0 (.pointer (some ⟨bc, 0, none⟩)) y5 y11 y12 y13 y14 y15 y16 ve (.int .i64 (c.entries.length : Int)) (.int .i64 ((i + 1 : Nat) : Int)) S) (kc W c5 [1, 1, 1, 0, 1, 0] f5)) Q) (n : Nat) : ∀ (j : Nat) (hj : n + j = i) (S : St) (g : Gd W S) (wS : Low S0 S) (y0 y5 y11 y12 y13 y14 y15 y16 y20 y21 y22 y23 y24 y25 y26 y91 : Value),
    Wp (bindO (l5_11101001100110 W y0 (.pointer (some ⟨bc, 0, none⟩)) (.int .i64 (i : Int)) (.pointer (some ⟨be, 0, none⟩)) y5 y11 y12 y13 y14 y15 y16 ve (.int .i64 (c.entries.length : Int)) (.int .i64 (i : Int)) y20 y21 y22 y23 y24 y25 y26 w (.int .i64 (i : Int)) (.int .i64 (j : Int)) y91 S) (fun e A S => bindO (rk W c5_111010 [1, 1, 0, 0, 1, 1, 0] e A S) (kc W c5 [1, 1, 1, 0, 1, 0] f5))) Q := by
  have hbc := row_lt g0.ok hb0
  have hbe := row_lt g0.ok he0
  have hlen : (c.entries.take i).length = i := by rw [List.length_take]; omega
  induction n with
  | zero =>
    intro j hj S g wS y0 y5 y11 y12 y13 y14 y15 y16 y20 y21 y22 y23 y24 y25 y26 y91
    rw [fw_end g c ve w i j (by omega) (by omega)]
    exact K S g wS _ _ _ _ _ _ _ _
  | succ n ih =>
    intro j hj S g wS y0 y5 y11 y12 y13 y14 y15 y16 y20 y21 y22 y23 y24 y25 y26 y91
    have hji : j < i := by omega
    have hb := (wS.2.2 bc hbc).trans hb0
    have he := (wS.2.2 be hbe).trans he0
    have hq := vlt_mono wS.2.1 hq0
    have ih := ih (j + 1) (by omega)
    obtain ⟨bw, ow, cw0, rfl, hbS, hr⟩ := (rdw.low wS).at (by omega)
    have e5 := (hr j (by omega)).1
    have hmb : (c.entries.take i)[j]'(by omega) ∈ c.entries.take i := List.getElem_mem _
    have hmc := List.mem_of_mem_take hmb
    rw [show NT.k = 4 from rfl] at e5
    have hok' := hok _ hmb
    generalize (c.entries.take i)[j]'(by omega) = b at e5 hmb hmc hok'
    rw [show NT.cs b = [.int .i64 b.f, .int .u32 (b.t : Int), .int .i64 b.ph, .int .i64 b.sz] from rfl] at e5
    have g1 : Gd W (S.new (.row [.int .i64 b.f, .int .u32 (b.t : Int), .int .i64 b.ph, .int .i64 b.sz] 0)) := g.new rfl
    have x1 : Ext [] S (S.new (.row [.int .i64 b.f, .int .u32 (b.t : Int), .int .i64 b.ph, .int .i64 b.sz] 0)) := Ext.new g.ok rfl
    simp only [hlen] at ih ⊢
    rw [fw_round g c q hW hq hb a b (het a ha) (het b hmc) he hWe (hph a ha) (hph b hmc) hok'.1 hok'.2 ve bw ow 0 cw0 i j (by omega) hji e5]
    exact ih _ g1 (wS.trans x1.low) _ _ _ _ _ _ _ _ _ _ _ _ _ _ _ _
set_option maxRecDepth 100000 in
set_option maxHeartbeats 1000000 in
theorem fw_outer (S0 : St) (g0 : Gd W S0) (c : Cfg) (q : Pl) {bc : Nat} (hW : W.heap.size ≤ bc) (hB : c.entries.length ≤ 2 ^ 59) (het : ∀ e ∈ c.entries, e.t < 4294967296) (hph : ∀ e ∈ c.entries, 0 ≤ e.ph ∧ e.ph ≤ 1073741824) (hq0 : vlt S0.c (cvl c q) = true) (hb0 : S0.heap bc = .row (ccs c q) 0) (rd0 : Rd NT W S0 (.slice q.ae c.entries.length q.ce) c.entries) (h1 : pairsB same [] c.entries = false) (h2 : pairsB (both c) [] c.entries = false) (n : Nat) : ∀ (i : Nat) (hn : n + i = c.entries.length) (S : St) (g : Gd W S) (w : Low S0 S) (y0 y5 y11 y12 y13 y14 y15 y16 : Value),
    Wp (bindO (l5_111010 W y0 (.pointer (some ⟨bc, 0, none⟩)) y5 y11 y12 y13 y14 y15 y16 (.slice q.ae c.entries.length q.ce) (.int .i64 (c.entries.length : Int)) (.int .i64 (i : Int)) S) (kc W c5 [1, 1, 1, 0, 1, 0] f5)) fun r => r.1 = .bool true := by
  have hbc := row_lt g0.ok hb0
  induction n with
  | zero =>
    intro i hn S g w y0 y5 y11 y12 y13 y14 y15 y16
    have hx : ¬ (i : Int) < (c.entries.length : Int) := by omega
    have hN := g.n; have hL : S.lock ≤ S.c := g.ok.1
    rw [r5_111010]
    simp -implicitDefEqProofs (maxSteps := 1000000) (disch := (refine id ?_; first | with_reducible assumption | ((first | with_reducible refine nat_le_id ?_ ); (first | (simp +arith only [new_c, new_lock, upd_c, upd_lock, relock_c, relock_lock]; done) | (simp only [new_c, new_lock, upd_c, upd_lock, relock_c, relock_lock]; with_reducible assumption) | fail)) | ((fail_if_success (with_reducible apply isT_of)); (fail_if_success (first | with_reducible refine nat_le_id ?_ )); first | (simp +arith only [new_c, new_lock, upd_c, upd_lock, relock_c, relock_lock]; done) | omega | fail))) only [hx, k5_111010_0, ↓bindV_some, ↓bindS_some, ↓bindT_some, ↓bindO_some, ↓condB_true, ↓condB_false, bindV_some, bindS_some, bindT_some, bindO_some, ↓condK_B, bin_lss, cell_at, put_cons, cellOf_row, putOf_row, nth_zero, nth_succ, aggOf_some, new_self, cast0, eq_self, new_upd, new_at, new_lo, bindO_bindO, splice_nil, splice_cons, decide_true, decide_false, and_self, Nat.zero_add, List.length_cons, List.length_nil, List.set_cons_zero, List.set_cons_succ, List.all_cons, List.all_nil, storable_int, Bool.and_self, Nat.reduceAdd, Nat.reduceSub, Nat.reduceMul, Nat.reduceLeDiff, Nat.reduceLT, Nat.reduceEqDiff, Int.reduceLE, Int.reduceLT, Int.reduceAdd, Int.reduceNeg, Int.reduceEq, Int.reduceSub, Int.reduceMul, Int.reduceToNat, Int.toNat_natCast, ↓reduceIte, Nat.le_refl, reduceCtorEq, ld_23, len_23, ix_23, fa_26_6, ld_32, st_32, al_32]
    exact ⟨_, rfl, rfl⟩
  | succ n ih =>
    intro i hn S g w y0 y5 y11 y12 y13 y14 y15 y16
    have hil : i < c.entries.length := by omega
    have hx : (i : Int) < (c.entries.length : Int) := by omega
    have hb := (w.2.2 bc hbc).trans hb0
    have hq := vlt_mono w.2.1 hq0
    have rd := rd0.low w
    have hlt := row_lt g.ok hb
    have ih := ih (i + 1) (by omega)
    have hok : ∀ b ∈ c.entries.take i, same c.entries[i] b = false ∧ both c c.entries[i] b = false := fun b hb' => ⟨pairsB_false same c.entries [] h1 i hil b hb', pairsB_false (both c) c.entries [] h2 i hil b hb'⟩
    obtain ⟨bl, ol, cp, e, hbS, hr⟩ := rd.at (by omega)
    have eA : q.ae = some ⟨bl, ol, none⟩ := by injection e
    have e5 := (hr i hil).1
    have hma := List.getElem_mem hil
    rw [show NT.k = 4 from rfl, show NT.cs c.entries[i] = [.int .i64 c.entries[i].f, .int .u32 (c.entries[i].t : Int), .int .i64 c.entries[i].ph, .int .i64 c.entries[i].sz] from rfl] at e5
    clear hr e
    generalize c.entries[i] = a at e5 hma hok
    have g1 : Gd W (S.new (.row [.int .i64 a.f, .int .u32 (a.t : Int), .int .i64 a.ph, .int .i64 a.sz] 0)) := g.new rfl
    have x1 : Ext [] S (S.new (.row [.int .i64 a.f, .int .u32 (a.t : Int), .int .i64 a.ph, .int .i64 a.sz] 0)) := Ext.new g.ok rfl
    have hb1 : (S.new (.row [.int .i64 a.f, .int .u32 (a.t : Int), .int .i64 a.ph, .int .i64 a.sz] 0)).heap bc = .row (ccs c q) 0 := (new_lo _ hlt).trans hb
    obtain ⟨v, eS, rdw⟩ := rd_cut Try.underlying23 (by kernel_rfl) (rd.low x1.low) (i := i) (by omega) (by omega)
    have hlw : (c.entries.take i).length = i := by rw [List.length_take]; omega
    obtain ⟨av, cv, rfl⟩ := rdw.form
    rw [hlw] at eS rdw
    obtain ⟨ad, cd, ae, ce, al, cl⟩ := q
    simp only at eA
    subst eA
    have fi := fw_inner _ g1 c ⟨ad, cd, some ⟨bl, ol, none⟩, ce, al, cl⟩ hW hB het hph (vlt_mono (Nat.le_succ _) hq) hb1 (be := S.c) (by have := g.n; omega) a hma (new_self _) (.slice (some ⟨bl, ol, none⟩) c.entries.length ce) (.slice av i cv) i (by omega) rdw hok (Q := fun r => r.1 = .bool true) (fun U gU wU y0 y5 y11 y12 y13 y14 y15 y16 => ih U gU (w.trans (x1.low.trans wU)) y0 y5 y11 y12 y13 y14 y15 y16) i 0 rfl _ g1 (Low.rfl' _)
    rw [cast0] at fi
    have hN := g.n; have hL : S.lock ≤ S.c := g.ok.1
    rw [r5_111010]
    simp -implicitDefEqProofs (maxSteps := 1000000) (disch := (refine id ?_; first | with_reducible assumption | ((first | with_reducible refine nat_le_id ?_ ); (first | (simp +arith only [new_c, new_lock, upd_c, upd_lock, relock_c, relock_lock]; done) | (simp only [new_c, new_lock, upd_c, upd_lock, relock_c, relock_lock]; with_reducible assumption) | fail)) | ((fail_if_success (with_reducible apply isT_of)); (fail_if_success (first | with_reducible refine nat_le_id ?_ )); first | (simp +arith only [new_c, new_lock, upd_c, upd_lock, relock_c, relock_lock]; done) | omega | fail))) only [hb1, hx, e5, eS, ↓bindV_some, ↓bindS_some, ↓bindT_some, ↓bindO_some, ↓condB_true, ↓condB_false, bindV_some, bindS_some, bindT_some, bindO_some, ↓condK_B, bin_lss, cell_at, put_cons, cellOf_row, putOf_row, nth_zero, nth_succ, aggOf_some, new_self, cast0, eq_self, new_upd, new_at, new_lo, bindO_bindO, splice_nil, splice_cons, decide_true, decide_false, and_self, Nat.zero_add, List.length_cons, List.length_nil, List.set_cons_zero, List.set_cons_succ, List.all_cons, List.all_nil, storable_int, Bool.and_self, Nat.reduceAdd, Nat.reduceSub, Nat.reduceMul, Nat.reduceLeDiff, Nat.reduceLT, Nat.reduceEqDiff, Int.reduceLE, Int.reduceLT, Int.reduceAdd, Int.reduceNeg, Int.reduceEq, Int.reduceSub, Int.reduceMul, Int.reduceToNat, Int.toNat_natCast, ↓reduceIte, Nat.le_refl, reduceCtorEq, ld_23, len_23, ix_23, fa_26_6, ld_32, st_32, al_32]
    exact fi _ _ _ _ _ _ _ _ _ _ _ _ _ _ _ _
set_option maxRecDepth 100000 in
theorem forwards_law {S : St} (g : Gd W S) (c : Cfg) (q : Pl) (h : CfgAt W S c q) (hB : CfgB c) (hR : CfgR c) : Wp (cw W 5 #[cvl c q] S) fun r => r.1 = .bool true := by
  rw [eq5]
  have hN := g.n; have hL : S.lock ≤ S.c := g.ok.1
  have hq := h.vlt
  have g1 := g.new (o := .row [Value.int .i64 c.hosts, .int .i64 c.cycle, .int .i64 c.delay, .int .i64 c.window, .int .i64 c.prec, .slice q.ad c.delays.length q.cd, .slice q.ae c.entries.length q.ce, .slice q.al c.links.length q.cl, .int .i64 c.queue] 0) (objLt_mono (Nat.le_succ _) (cvl_obj hq))
  have hq1 : vlt (S.c + 1) (cvl c q) = true := vlt_mono (by omega) hq
  have ha : [cvl c q].all (vlt S.c) = true := by rw [List.all_cons, hq]; rfl
  have h1 := h.low (Low.new (Low.rfl' S) (.row (ccs c q) 0))
  have e0 := fixed_eq g1
  have e1 := Check_eq g1 c q h1
  have hb1 : (S.new (.row [Value.int .i64 c.hosts, .int .i64 c.cycle, .int .i64 c.delay, .int .i64 c.window, .int .i64 c.prec, .slice q.ad c.delays.length q.cd, .slice q.ae c.entries.length q.ce, .slice q.al c.links.length q.cl, .int .i64 c.queue] 0)).heap S.c = .row (ccs c q) 0 := new_self _
  by_cases hz : checkN c = 0
  · have hz' : (checkN c = 0) = True := eq_true hz
    obtain ⟨k1, k2, k3, k4, k5, _⟩ := check_zero hz
    obtain ⟨s1, s2, s3, s4, s5⟩ := schedule_zero k5
    have hph : ∀ e ∈ c.entries, 0 ≤ e.ph ∧ e.ph ≤ 1073741824 := fun e he => by
      have := List.any_eq_false.1 s3 e he
      simp only [badTime, Bool.or_eq_true, decide_eq_true_eq, not_or] at this
      have hs := k3
      simp only [Cfg.spans, inB, Bool.and_eq_true, decide_eq_true_eq] at hs
      unfold qv at this
      omega
    have fo := fw_outer _ g1 c q (bc := S.c) hN (by omega) h.et hph hq1 hb1 h1.ent s4 s5 c.entries.length 0 (by omega) _ g1 (Low.rfl' _)
    rw [cast0] at fo
    simp -implicitDefEqProofs (maxSteps := 1000000) (disch := (refine id ?_; first | with_reducible assumption | ((first | with_reducible refine nat_lt_id ?_ ); (first | (simp +arith only [new_c, new_lock, upd_c, upd_lock, relock_c, relock_lock]; done) | fail)) )) only [e0, e1, hz', ↓bindV_some, ↓bindS_some, ↓condB_true, ↓condB_false, bindV_some, bindS_some, ↓condK_B, bin_neq, un_not, box_agg, cell_at, cells_at, cellOf_row, cellsOf_row, nth_zero, nth_succ, aggOf_some, new_self, cast0, eq_self, new_at, decide_true, decide_false, Bool.not_true, Bool.not_false, Nat.zero_add, List.length_cons, List.length_nil, List.drop_zero, List.take_succ_cons, List.take_zero, List.all_cons, Nat.reduceAdd, Nat.reduceSub, Nat.reduceMul, Nat.reduceLeDiff, Nat.reduceLT, Nat.reduceEqDiff, Int.reduceLE, Int.reduceLT, Int.reduceAdd, Int.reduceNeg, Int.reduceEq, Int.reduceSub, Int.reduceMul, Int.reduceToNat, ↓reduceIte, Nat.le_refl, decide_eq_true_eq, Bool.and_eq_true, Bool.or_eq_true, reduceCtorEq, call_10, call_11, ld_23, len_23, fa_26_6, ld_26]
    exact fo _ _ _ _ _ _ _ _
  · simp -implicitDefEqProofs (maxSteps := 1000000) (disch := (refine id ?_; first | with_reducible assumption | ((first | with_reducible refine nat_lt_id ?_ ); (first | (simp +arith only [new_c, new_lock, upd_c, upd_lock, relock_c, relock_lock]; done) | fail)) )) only [e0, e1, hz, ↓bindV_some, ↓bindS_some, ↓condB_true, ↓condB_false, bindV_some, bindS_some, ↓condK_B, bin_neq, un_not, box_agg, cell_at, cells_at, cellOf_row, cellsOf_row, nth_zero, nth_succ, aggOf_some, new_self, cast0, eq_self, new_at, decide_true, decide_false, Bool.not_true, Bool.not_false, Nat.zero_add, List.length_cons, List.length_nil, List.drop_zero, List.take_succ_cons, List.take_zero, List.all_cons, Nat.reduceAdd, Nat.reduceSub, Nat.reduceMul, Nat.reduceLeDiff, Nat.reduceLT, Nat.reduceEqDiff, Int.reduceLE, Int.reduceLT, Int.reduceAdd, Int.reduceNeg, Int.reduceEq, Int.reduceSub, Int.reduceMul, Int.reduceToNat, ↓reduceIte, Nat.le_refl, decide_eq_true_eq, Bool.and_eq_true, Bool.or_eq_true, reduceCtorEq, call_10, call_11, ld_23, len_23, fa_26_6, ld_26]
    exact ⟨_, rfl, rfl⟩
end
end Go.Proofs.Ytogcdgdnjinjkaa.F
end
