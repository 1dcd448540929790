/- What the functions of this chapter compute, in memories that are closed; conditions stand in each theorem. Laid together by a program for this claim. -/
import Derived.Test.YtogcdgdnjinjkaaQWalkA2
set_option linter.unusedVariables false
set_option linter.unusedSimpArgs false
section
namespace Go.Proofs.Ytogcdgdnjinjkaa.F
open Go Go.Proofs.Ytogcdgdnjinjkaa.E
set_option linter.unusedVariables false
set_option linter.unusedSimpArgs false
def ofA (l : List Int) : Nat → Nat
  | 0 => 0
  | h + 1 => ofA l h + if (h : Int) ∈ l then 2 ^ h else 0
theorem ofA_lt (l : List Int) : ∀ h, ofA l h < 2 ^ h
  | 0 => by simp [ofA]
  | h + 1 => by
    have := ofA_lt l h
    rw [ofA, Nat.pow_succ]
    split <;> omega
theorem m2 (j : Nat) (hj : j < 6) : aBin p .mul 30 (.int .u32 ((2 ^ j : Nat) : Int)) (.int .u32 2) = some (.int .u32 ((2 ^ (j + 1) : Nat) : Int)) := by
  have : j = 0 ∨ j = 1 ∨ j = 2 ∨ j = 3 ∨ j = 4 ∨ j = 5 := by omega
  rcases this with rfl | rfl | rfl | rfl | rfl | rfl
  · exact m2_0
  · exact m2_1
  · exact m2_2
  · exact m2_3
  · exact m2_4
  · exact m2_5
section
variable {W : World} {S : St}
set_option maxRecDepth 100000 in
theorem of_inner (g : Gd W S) (l : List Int) (hlen : l.length ≤ 2 ^ 60) {v : Value} (rd : Rd IT W S v l) (h a z z2 : Nat) (hh : h < 6) (ha : a + z < 4294967296) (hz : aBin p .mul 30 (.int .u32 (z : Int)) (.int .u32 2) = some (.int .u32 (z2 : Int))) (n : Nat) : ∀ (k : Nat) (hk : n + k = l.length) (y1 y2 y7 y8 y9 y10 y26 y27 y28 : Value),
    bindO (l42_1110100100010 W v y1 y2 (.int .u32 (a : Int)) (.int .u32 (z : Int)) (.int .i64 (h : Int)) (.int .i64 (k : Int)) y7 y8 y9 y10 y26 y27 y28 S) (fun e A S => bindO (rk W c42_111010 [1, 0, 0, 0, 1, 0] e A S) (kc W c42 [1, 1, 1, 0, 1, 0] f42)) = if (h : Int) ∈ l.drop k then bindO (l42_111010 W v y1 y2 (.int .u32 ((a + z : Nat) : Int)) (.int .u32 (z2 : Int)) (.int .i64 ((h + 1 : Nat) : Int)) y28 S) (kc W c42 [1, 1, 1, 0, 1, 0] f42) else bindO (l42_111010 W v y1 y2 (.int .u32 (a : Int)) (.int .u32 (z2 : Int)) (.int .i64 ((h + 1 : Nat) : Int)) y28 S) (kc W c42 [1, 1, 1, 0, 1, 0] f42) := by
  have e2h : IntKind.i64.wrap ((h : Int) + 1) = ((h + 1 : Nat) : Int) := by rw [wrap64 (by omega) (by omega)]; omega
  have ew : IntKind.u32.wrap ((a : Int) + (z : Int)) = ((a + z : Nat) : Int) := by rw [wrapu32 (by omega) (by omega)]; omega
  induction n with
  | zero =>
    intro k hk y1 y2 y7 y8 y9 y10 y26 y27 y28
    have hx : ¬ (k : Int) < (l.length : Int) := by omega
    rw [List.drop_eq_nil_of_le (by omega), if_neg (by simp)]
    obtain ⟨av, cv, rfl⟩ := rd.form
    have hN := g.n; have hL : S.lock ≤ S.c := g.ok.1
    rw [r42_1110100100010]
    simp -implicitDefEqProofs (maxSteps := 1000000) (disch := (refine id ?_; first | ((fail_if_success (with_reducible apply isT_of)); (fail_if_success (first | fail)); first | omega | fail))) only [hx, hz, e2h, k42_1110100100010_2, ↓bindV_some, ↓bindO_some, ↓condB_true, ↓condB_false, bindV_some, bindO_some, wrap64, wrapu32, ↓condK_B, bin_add, bin_lss, bin_eql, nth_zero, eq_self, decide_true, decide_false, Nat.add_zero, not_false_eq_true, Nat.reduceAdd, Nat.reduceSub, Nat.reduceMul, Nat.reduceLeDiff, Nat.reduceLT, Nat.reduceEqDiff, Int.reduceLE, Int.reduceLT, Int.reduceAdd, Int.reduceNeg, Int.reduceEq, Int.reduceSub, Int.reduceMul, Int.reduceToNat, Int.toNat_natCast, Nat.mul_one, ↓reduceIte, reduceCtorEq, ld_3, len_57, ix_57]
  | succ n ih =>
    intro k hk y1 y2 y7 y8 y9 y10 y26 y27 y28
    have hkl : k < l.length := by omega
    have hx : (k : Int) < (l.length : Int) := by omega
    have e2 : IntKind.i64.wrap ((k : Int) + 1) = ((k + 1 : Nat) : Int) := by rw [wrap64 (by omega) (by omega)]; omega
    have ih := ih (k + 1) (by omega) y1 y2 y7 y8 y9 y10 y26 y27 y28
    obtain ⟨b, o, cp, rfl, hbS, hr⟩ := rd.at (by omega)
    have e5 := (hr k hkl).2 0 (by decide)
    rw [show IT.k = 1 from rfl, show IT.cs l[k] = [.int .i64 l[k]] from rfl, Nat.mul_one, Nat.add_zero, nth_zero] at e5
    rw [List.drop_eq_getElem_cons hkl]
    clear hr
    generalize l[k] = x at *
    have hN := g.n; have hL : S.lock ≤ S.c := g.ok.1
    rw [r42_1110100100010]
    by_cases hxh : x = (h : Int)
    · rw [if_pos (by rw [hxh]; exact List.mem_cons_self ..)]
      subst hxh
      simp -implicitDefEqProofs (maxSteps := 1000000) (disch := (refine id ?_; first | ((fail_if_success (with_reducible apply isT_of)); (fail_if_success (first | fail)); first | omega | fail))) only [hx, e5, ew, hz, e2h, k42_1110100100010_2, ↓bindV_some, ↓bindO_some, ↓condB_true, ↓condB_false, bindV_some, bindO_some, wrap64, wrapu32, ↓condK_B, bin_add, bin_lss, bin_eql, nth_zero, eq_self, decide_true, decide_false, Nat.add_zero, not_false_eq_true, Nat.reduceAdd, Nat.reduceSub, Nat.reduceMul, Nat.reduceLeDiff, Nat.reduceLT, Nat.reduceEqDiff, Int.reduceLE, Int.reduceLT, Int.reduceAdd, Int.reduceNeg, Int.reduceEq, Int.reduceSub, Int.reduceMul, Int.reduceToNat, Int.toNat_natCast, Nat.mul_one, ↓reduceIte, reduceCtorEq, ld_3, len_57, ix_57]
    · simp -implicitDefEqProofs (maxSteps := 1000000) (disch := (refine id ?_; first | ((fail_if_success (with_reducible apply isT_of)); (fail_if_success (first | fail)); first | omega | fail))) only [hx, e2, e5, hxh, ↓bindV_some, ↓bindO_some, ↓condB_true, ↓condB_false, bindV_some, bindO_some, wrap64, wrapu32, ↓condK_B, bin_add, bin_lss, bin_eql, nth_zero, eq_self, decide_true, decide_false, Nat.add_zero, not_false_eq_true, Nat.reduceAdd, Nat.reduceSub, Nat.reduceMul, Nat.reduceLeDiff, Nat.reduceLT, Nat.reduceEqDiff, Int.reduceLE, Int.reduceLT, Int.reduceAdd, Int.reduceNeg, Int.reduceEq, Int.reduceSub, Int.reduceMul, Int.reduceToNat, Int.toNat_natCast, Nat.mul_one, ↓reduceIte, reduceCtorEq, ld_3, len_57, ix_57]
      rw [ih]
      by_cases hm : (h : Int) ∈ l.drop (k + 1)
      · rw [if_pos hm, if_pos (List.mem_cons_of_mem _ hm)]
      · rw [if_neg hm, if_neg (fun hc => by rcases List.mem_cons.1 hc with hc | hc; exact hxh hc.symm; exact hm hc)]
set_option maxRecDepth 100000 in
theorem of_outer (g : Gd W S) (l : List Int) (hlen : l.length ≤ 2 ^ 60) {v : Value} (rd : Rd IT W S v l) (n : Nat) : ∀ (h : Nat) (hn : n + h = 6) (y1 y2 y28 : Value),
    bindO (l42_111010 W v y1 y2 (.int .u32 (ofA l h : Int)) (.int .u32 ((2 ^ h : Nat) : Int)) (.int .i64 (h : Int)) y28 S) (kc W c42 [1, 1, 1, 0, 1, 0] f42) = some (.int .u32 (ofA l 6 : Int), S) := by
  induction n with
  | zero =>
    intro h hn y1 y2 y28
    obtain rfl : h = 6 := by omega
    have hN := g.n; have hL : S.lock ≤ S.c := g.ok.1
    rw [r42_111010]
    have hx6 : ¬ (((6 : Nat) : Int) < 6) := by decide
    simp -implicitDefEqProofs (maxSteps := 1000000) (disch := (refine id ?_; first | fail)) only [hx6, k42_111010_0, ↓bindV_some, ↓bindO_some, ↓condB_true, ↓condB_false, bindV_some, bindO_some, ↓condK_B, bin_lss, cast0, eq_self, bindO_bindO, decide_true, decide_false, List.drop_zero, Nat.reduceAdd, Nat.reduceSub, Nat.reduceMul, Nat.reduceLeDiff, Nat.reduceLT, Nat.reduceEqDiff, Int.reduceLE, Int.reduceLT, Int.reduceAdd, Int.reduceNeg, Int.reduceEq, Int.reduceSub, Int.reduceMul, Int.reduceToNat, ↓reduceIte, reduceCtorEq]
  | succ n ih =>
    intro h hn y1 y2 y28
    have hx : (h : Int) < 6 := by omega
    have hlt := ofA_lt l h
    have hp : 2 ^ h ≤ 2 ^ 5 := Nat.pow_le_pow_right (by omega) (by omega)
    have si := of_inner g l hlen rd h (ofA l h) (2 ^ h) (2 ^ (h + 1)) (by omega) (by omega) (m2 h (by omega)) l.length 0 (by omega)
    rw [cast0, List.drop_zero] at si
    have ih := ih (h + 1) (by omega)
    rw [ofA] at ih
    generalize 2 ^ (h + 1) = z1 at *
    generalize 2 ^ h = z at *
    have hN := g.n; have hL : S.lock ≤ S.c := g.ok.1
    rw [r42_111010]
    simp -implicitDefEqProofs (maxSteps := 1000000) (disch := (refine id ?_; first | fail)) only [hx, ↓bindV_some, ↓bindO_some, ↓condB_true, ↓condB_false, bindV_some, bindO_some, ↓condK_B, bin_lss, cast0, eq_self, bindO_bindO, decide_true, decide_false, List.drop_zero, Nat.reduceAdd, Nat.reduceSub, Nat.reduceMul, Nat.reduceLeDiff, Nat.reduceLT, Nat.reduceEqDiff, Int.reduceLE, Int.reduceLT, Int.reduceAdd, Int.reduceNeg, Int.reduceEq, Int.reduceSub, Int.reduceMul, Int.reduceToNat, ↓reduceIte, reduceCtorEq]
    refine (si _ _ _ _ _ _ _ _ _).trans ?_
    by_cases hm : (h : Int) ∈ l
    · rw [if_pos hm] at ih ⊢
      exact ih _ _ _
    · rw [if_neg hm] at ih ⊢
      exact ih _ _ _
theorem Of_eq (g : Gd W S) (l : List Int) (hlen : l.length ≤ 2 ^ 60) {v : Value} (rd : Rd IT W S v l) : cw W 42 #[v] S = some (.int .u32 (ofA l 6 : Int), S) := by
  have ha : [v].all (vlt S.c) = true := by rw [List.all_cons, vlt_rd rd]; rfl
  have lp := of_outer g l hlen rd 6 0 rfl
  rw [cast0] at lp
  rw [eq42]
  refine gcR_wp (args := [_]) g ha rfl ?_
  exact Wp.of (lp _ _ _) ⟨rfl, Low.rfl' S⟩
theorem of_all : ∀ h : Nat, h ≤ 6 → ofA ((List.range h).map fun (i : Nat) => (i : Int)) 6 = 2 ^ h - 1 := by decide
theorem of_one : ∀ f : Nat, f < 6 → ofA [(f : Int)] 6 = 2 ^ f := by decide
end
end Go.Proofs.Ytogcdgdnjinjkaa.F
end
section
namespace Go.Proofs.Ytogcdgdnjinjkaa.F
open Go Go.Proofs.Ytogcdgdnjinjkaa.E
set_option linter.unusedVariables false
set_option linter.unusedSimpArgs false
section
variable {W : World} {S : St}
theorem elc57 : Elem p 57 3 (zeroOf p 3) 1 8 := elem_of (by kernel_rfl)
def ints (h : Nat) : List Int := (List.range h).map fun (i : Nat) => (i : Int)
theorem ints_succ (h : Nat) : ints (h + 1) = ints h ++ [(h : Int)] := by
  unfold ints
  rw [List.range_succ, List.map_append]
  rfl
theorem ints_len (h : Nat) : (ints h).length = h := by
  unfold ints
  rw [List.length_map, List.length_range]
set_option maxRecDepth 100000 in
theorem rfam_end (S0 : St) (hN0 : W.heap.size ≤ S0.c) (hL0 : S0.lock ≤ S0.c) (h : Nat) (y : Int) (hh : 1 ≤ h ∧ h ≤ 6) {b1 b2 : Nat} (h1 : S0.c ≤ b1) (h2 : S0.c ≤ b2) (h12 : b1 ≠ b2) (S : St) (g : Gd W S) (w : Low S0 S) (vd : Value) (svs : List Sv) (hsv : svs.map (·.l) = famD h) (rd : Rd VT W S vd svs) (h3 : ∀ s ∈ svs, Rd IT W S (.slice s.a s.n s.c) s.l) (nd : ∀ i, i ∈ blkOf vd → i ≠ b1 ∧ i ≠ b2) (n3 : ∀ s ∈ svs, ∀ i, i ∈ blkOf (.slice s.a s.n s.c) → i ≠ b1 ∧ i ≠ b2) {va ve : Value} (re : Rd NT W S ve (famE h (clampN y))) (ne : ∀ i, i ∈ blkOf ve → i ≠ b1 ∧ i ≠ b2) (hbx : S.heap b2 = .row (fcs h vd ve) 0) (hb1 : S.heap b1 = (.row [.int .i64 0, .int .i64 0, .int .i64 0, .int .i64 0, .int .i64 0, .slice none 0 0, .slice none 0 0, .slice none 0 0, .int .i64 0] 0)) (j : Nat) (hj : j = clampN y ∨ h ≤ 1) (y2 y3 y7 y10 y11 y12 y13 y14 y15 y16 y17 y18 y19 y20 y21 y22 y23 y24 y25 y26 y27 y28 y29 y30 y31 y32 y33 y34 y35 y36 y37 y72 : Value) :
    Wp (bindO (l24_111111010 W (.int .i64 (h : Int)) (.int .i64 y) y2 y3 (.pointer (some ⟨b1, 0, none⟩)) (.pointer (some ⟨b2, 0, none⟩)) va y7 (.int .i64 (j : Int)) y10 y11 y12 y13 y14 y15 y16 y17 y18 y19 y20 y21 y22 y23 y24 y25 y26 y27 y28 y29 y30 y31 y32 y33 y34 y35 y36 y37 y72 S) (kc W c24 [1, 1, 1, 1, 1, 1, 0, 1, 0] f24)) (fun r => ∃ q, r.1 = cvl (famC h (clampN y)) q ∧ Gd W r.2 ∧ Low S0 r.2 ∧ CfgAt W r.2 (famC h (clampN y)) q) := by
  have q1 := row_lt g.ok hb1
  have q2 := row_lt g.ok hbx
  have hWb1 : W.heap.size ≤ b1 := Nat.le_trans hN0 h1
  have hWb2 : W.heap.size ≤ b2 := Nat.le_trans hN0 h2
  have hLb1 : S.lock ≤ b1 := by rw [w.1]; exact Nat.le_trans hL0 h1
  have hLb2 : S.lock ≤ b2 := by rw [w.1]; exact Nat.le_trans hL0 h2
  have hub := rd.1
  have hue := re.1
  obtain ⟨ad, cd, rfl⟩ := rd.form
  obtain ⟨ae, ce, rfl⟩ := re.form
  have hsl : svs.length = (famD h).length := by rw [← hsv, List.length_map]
  have hn16 : clampN y ≤ 16 := by unfold clampN; split; omega; split <;> omega
  have hob : objLt S.c (.row (fcs h (.slice ad svs.length cd) (.slice ae (famE h (clampN y)).length ce)) 0) = true := by
    simp only [objLt_row, List.all_cons, List.all_nil, vlt1_int, hub, hue, vlt1_nils, Bool.and_self]
  have x : Ext [b1] S (S.upd b1 (.row (fcs h (.slice ad svs.length cd) (.slice ae (famE h (clampN y)).length ce)) 0)) := Ext.upd g.ok q1 hob
  have fin : Wp (some (.agg (fcs h (.slice ad svs.length cd) (.slice ae (famE h (clampN y)).length ce)).toArray, S.upd b1 (.row (fcs h (.slice ad svs.length cd) (.slice ae (famE h (clampN y)).length ce)) 0))) (fun r => ∃ q, r.1 = cvl (famC h (clampN y)) q ∧ Gd W r.2 ∧ Low S0 r.2 ∧ CfgAt W r.2 (famC h (clampN y)) q) := by
    refine ⟨_, rfl, ⟨ad, cd, ae, ce, none, 0⟩, ?_, x.good g, Low.ext w x (fun i hi => by rw [List.mem_singleton] at hi; omega), ?_⟩
    · rw [hsl]; rfl
    · have fB := famC_B h (clampN y) hh.2 hn16
      refine ⟨⟨svs, ?_, hsv, fun s hs => (h3 s hs).ext x fun i hi => ?_⟩, ?_, ?_, ?_, ?_, ?_, ?_, fB.et, fB.lt⟩
      · show Rd VT W _ (.slice ad (famD h).length cd) svs
        rw [← hsl]
        exact rd.ext x fun i hi => by rw [List.mem_singleton]; exact (nd i hi).1
      · rw [List.mem_singleton]; exact (n3 s hs i hi).1
      · exact re.ext x fun i hi => by rw [List.mem_singleton]; exact (ne i hi).1
      · exact rd_nil
      · have := fB.ld; omega
      · intro l hl; have := fB.ldd l hl; omega
      · have := fB.le; omega
      · exact Nat.zero_le _
  have hN := g.n; have hL : S.lock ≤ S.c := g.ok.1
  rw [r24_111111010]
  by_cases c1 : (j : Int) < y
  · by_cases c2 : (j : Int) < 16
    · have c3 : ¬ (1 : Int) < (h : Int) := by
        rcases hj with hj | hj
        · exfalso
          have hc : y ≤ (clampN y : Int) ∨ clampN y = 16 := by
            unfold clampN
            split
            · left; omega
            · split
              · right; rfl
              · left; omega
          omega
        · omega
      simp -implicitDefEqProofs (maxSteps := 1000000) (disch := (refine id ?_; first | with_reducible assumption | ((first | with_reducible refine nat_lt_id ?_ | with_reducible refine nat_le_id ?_ | with_reducible refine nat_ne_id ?_); (first | (simp +arith only [new_c, new_lock, upd_c, upd_lock, relock_c, relock_lock]; done) | (simp only [new_c, new_lock, upd_c, upd_lock, relock_c, relock_lock]; with_reducible assumption) | fail)) )) only [c1, c2, c3, hbx, hb1, k24_111111010_2, ↓bindV_some, ↓bindT_some, ↓bindO_some, ↓condB_false, wV_true, wV_false, ↓wO_true, ↓wO_false, bindV_some, bindT_some, bindO_some, ↓gV_t, wrap64, ↓condK_B, wO_true, wO_false, pick_bool, bin_add, bin_mul, bin_lss, bin_gtr, pick_false, cell_at, cells_at, put_cons, cellOf_row, cellsOf_row, putOf_row, nth_zero, nth_succ, aggOf_some, eq_self, upd_self, qS_true, splice_nil, splice_cons, decide_true, decide_false, and_self, Nat.zero_add, List.length_cons, List.length_nil, List.drop_zero, List.take_succ_cons, List.take_zero, List.set_cons_zero, List.set_cons_succ, List.all_cons, List.all_nil, storable_int, storable_slice, Bool.and_self, Nat.reduceAdd, Nat.reduceSub, Nat.reduceMul, Nat.reduceLeDiff, Nat.reduceLT, Nat.reduceEqDiff, Int.reduceLE, Int.reduceLT, Int.reduceAdd, Int.reduceNeg, Int.reduceEq, Int.reduceSub, Int.reduceMul, Int.reduceToNat, ↓reduceIte, Nat.le_refl, reduceCtorEq, call_42, ld_23, fa_26_6, ld_26, st_26]
      exact fin
    · simp -implicitDefEqProofs (maxSteps := 1000000) (disch := (refine id ?_; first | with_reducible assumption | ((first | with_reducible refine nat_lt_id ?_ | with_reducible refine nat_le_id ?_ | with_reducible refine nat_ne_id ?_); (first | (simp +arith only [new_c, new_lock, upd_c, upd_lock, relock_c, relock_lock]; done) | (simp only [new_c, new_lock, upd_c, upd_lock, relock_c, relock_lock]; with_reducible assumption) | fail)) )) only [c1, c2, hbx, hb1, k24_111111010_2, ↓bindV_some, ↓bindT_some, ↓bindO_some, ↓condB_false, wV_true, wV_false, ↓wO_true, ↓wO_false, bindV_some, bindT_some, bindO_some, ↓gV_t, wrap64, ↓condK_B, wO_true, wO_false, pick_bool, bin_add, bin_mul, bin_lss, bin_gtr, pick_false, cell_at, cells_at, put_cons, cellOf_row, cellsOf_row, putOf_row, nth_zero, nth_succ, aggOf_some, eq_self, upd_self, qS_true, splice_nil, splice_cons, decide_true, decide_false, and_self, Nat.zero_add, List.length_cons, List.length_nil, List.drop_zero, List.take_succ_cons, List.take_zero, List.set_cons_zero, List.set_cons_succ, List.all_cons, List.all_nil, storable_int, storable_slice, Bool.and_self, Nat.reduceAdd, Nat.reduceSub, Nat.reduceMul, Nat.reduceLeDiff, Nat.reduceLT, Nat.reduceEqDiff, Int.reduceLE, Int.reduceLT, Int.reduceAdd, Int.reduceNeg, Int.reduceEq, Int.reduceSub, Int.reduceMul, Int.reduceToNat, ↓reduceIte, Nat.le_refl, reduceCtorEq, call_42, ld_23, fa_26_6, ld_26, st_26]
      exact fin
  · simp -implicitDefEqProofs (maxSteps := 1000000) (disch := (refine id ?_; first | with_reducible assumption | ((first | with_reducible refine nat_lt_id ?_ | with_reducible refine nat_le_id ?_ | with_reducible refine nat_ne_id ?_); (first | (simp +arith only [new_c, new_lock, upd_c, upd_lock, relock_c, relock_lock]; done) | (simp only [new_c, new_lock, upd_c, upd_lock, relock_c, relock_lock]; with_reducible assumption) | fail)) )) only [c1, hbx, hb1, k24_111111010_2, ↓bindV_some, ↓bindT_some, ↓bindO_some, ↓condB_false, wV_true, wV_false, ↓wO_true, ↓wO_false, bindV_some, bindT_some, bindO_some, ↓gV_t, wrap64, ↓condK_B, wO_true, wO_false, pick_bool, bin_add, bin_mul, bin_lss, bin_gtr, pick_false, cell_at, cells_at, put_cons, cellOf_row, cellsOf_row, putOf_row, nth_zero, nth_succ, aggOf_some, eq_self, upd_self, qS_true, splice_nil, splice_cons, decide_true, decide_false, and_self, Nat.zero_add, List.length_cons, List.length_nil, List.drop_zero, List.take_succ_cons, List.take_zero, List.set_cons_zero, List.set_cons_succ, List.all_cons, List.all_nil, storable_int, storable_slice, Bool.and_self, Nat.reduceAdd, Nat.reduceSub, Nat.reduceMul, Nat.reduceLeDiff, Nat.reduceLT, Nat.reduceEqDiff, Int.reduceLE, Int.reduceLT, Int.reduceAdd, Int.reduceNeg, Int.reduceEq, Int.reduceSub, Int.reduceMul, Int.reduceToNat, ↓reduceIte, Nat.le_refl, reduceCtorEq, call_42, ld_23, fa_26_6, ld_26, st_26]
    exact fin
set_option maxRecDepth 100000 in
set_option maxHeartbeats 1000000 in
theorem rfam_loop2 (S0 : St) (hN0 : W.heap.size ≤ S0.c) (hL0 : S0.lock ≤ S0.c) (h : Nat) (y : Int) (hh : 1 ≤ h ∧ h ≤ 6) {b1 b2 : Nat} (h1 : S0.c ≤ b1) (h2 : S0.c ≤ b2) (h12 : b1 ≠ b2) {vd va : Value} (svs : List Sv) (hsv : svs.map (·.l) = famD h) (hvf : ∃ a n c, vd = .slice a n c) (nd : ∀ i, i ∈ blkOf vd → i ≠ b1 ∧ i ≠ b2) (n3 : ∀ s ∈ svs, ∀ i, i ∈ blkOf (.slice s.a s.n s.c) → i ≠ b1 ∧ i ≠ b2) (na : ∀ i, i ∈ blkOf va → i ≠ b1 ∧ i ≠ b2) (m : Nat) : ∀ (j : Nat) (hmj : m + j = clampN y) (S : St) (g : Gd W S) (w : Low S0 S) (rd : Rd VT W S vd svs) (h3 : ∀ s ∈ svs, Rd IT W S (.slice s.a s.n s.c) s.l) (ra : Rd IT W S va (ints h)) (ve : Value) (re : Sl NT S ve (famE h j)) (ne : ∀ i, i ∈ blkOf ve → i ≠ b1 ∧ i ≠ b2 ∧ S0.c ≤ i) (nde : ∀ i, i ∈ blkOf vd → i ∉ blkOf ve) (n3e : ∀ s ∈ svs, ∀ i, i ∈ blkOf (.slice s.a s.n s.c) → i ∉ blkOf ve) (nae : ∀ i, i ∈ blkOf va → i ∉ blkOf ve) (hbx : S.heap b2 = .row (fcs h vd ve) 0) (hb1 : S.heap b1 = (.row [.int .i64 0, .int .i64 0, .int .i64 0, .int .i64 0, .int .i64 0, .slice none 0 0, .slice none 0 0, .slice none 0 0, .int .i64 0] 0)) (y2 y3 y7 y10 y11 y12 y13 y14 y15 y16 y17 y18 y19 y20 y21 y22 y23 y24 y25 y26 y27 y28 y29 y30 y31 y32 y33 y34 y35 y36 y37 y72 : Value),
    Wp (bindO (l24_111111010 W (.int .i64 (h : Int)) (.int .i64 y) y2 y3 (.pointer (some ⟨b1, 0, none⟩)) (.pointer (some ⟨b2, 0, none⟩)) va y7 (.int .i64 (j : Int)) y10 y11 y12 y13 y14 y15 y16 y17 y18 y19 y20 y21 y22 y23 y24 y25 y26 y27 y28 y29 y30 y31 y32 y33 y34 y35 y36 y37 y72 S) (kc W c24 [1, 1, 1, 1, 1, 1, 0, 1, 0] f24)) (fun r => ∃ q, r.1 = cvl (famC h (clampN y)) q ∧ Gd W r.2 ∧ Low S0 r.2 ∧ CfgAt W r.2 (famC h (clampN y)) q) := by
  have hWb2 : W.heap.size ≤ b2 := Nat.le_trans hN0 h2
  have hn16 : clampN y ≤ 16 := by unfold clampN; split; omega; split <;> omega
  induction m with
  | zero =>
    intro j hmj S g w rd h3 ra ve re ne nde n3e nae hbx hb1 y2 y3 y7 y10 y11 y12 y13 y14 y15 y16 y17 y18 y19 y20 y21 y22 y23 y24 y25 y26 y27 y28 y29 y30 y31 y32 y33 y34 y35 y36 y37 y72
    have hjn : j = clampN y := by omega
    rw [hjn] at re
    exact rfam_end S0 hN0 hL0 h y hh h1 h2 h12 S g w vd svs hsv rd h3 nd n3 (re.rd g) (fun i hi => ⟨(ne i hi).1, (ne i hi).2.1⟩) hbx hb1 j (.inl hjn) _ _ _ _ _ _ _ _ _ _ _ _ _ _ _ _ _ _ _ _ _ _ _ _ _ _ _ _ _ _ _ _
  | succ m ih =>
    intro j hmj S g w rd h3 ra ve re ne nde n3e nae hbx hb1 y2 y3 y7 y10 y11 y12 y13 y14 y15 y16 y17 y18 y19 y20 y21 y22 y23 y24 y25 y26 y27 y28 y29 y30 y31 y32 y33 y34 y35 y36 y37 y72
    by_cases hg : 1 < h
    case neg =>
      have ee : famE h (clampN y) = famE h j := by unfold famE; rw [if_neg hg, if_neg hg]
      exact rfam_end S0 hN0 hL0 h y hh h1 h2 h12 S g w vd svs hsv rd h3 nd n3 (by rw [ee]; exact re.rd g) (fun i hi => ⟨(ne i hi).1, (ne i hi).2.1⟩) hbx hb1 j (.inr (by omega)) _ _ _ _ _ _ _ _ _ _ _ _ _ _ _ _ _ _ _ _ _ _ _ _ _ _ _ _ _ _ _ _
    have q1 := row_lt g.ok hb1
    have q2 := row_lt g.ok hbx
    have hLb2 : S.lock ≤ b2 := by rw [w.1]; exact Nat.le_trans hL0 h2
    have c1 : (j : Int) < y := by
      have : j < clampN y := by omega
      unfold clampN at this
      split at this
      · omega
      · split at this <;> omega
    have c2 : (j : Int) < 16 := by omega
    have c3 : (1 : Int) < (h : Int) := by omega
    have e2 : IntKind.i64.wrap ((j : Int) + 1) = ((j + 1 : Nat) : Int) := by rw [wrap64 (by omega) (by omega)]; omega
    have erem : aBin p .rem 3 (.int .i64 (j : Int)) (.int .i64 (h : Int)) = some (.int .i64 ((j % h : Nat) : Int)) := by
      rw [bin_rem _ _ _ _ (by omega)]; rfl
    have ih := ih (j + 1) (by omega)
    have hf : j % h < h := Nat.mod_lt _ (by omega)
    have hP1 : 2 ^ h ≤ 2 ^ 6 := Nat.pow_le_pow_right (by omega) hh.2
    have hP2 : 2 ^ (j % h + 1) ≤ 2 ^ h := Nat.pow_le_pow_right (by omega) (by omega)
    have hP3 : 0 < 2 ^ (j % h) := Nat.pow_pos (by omega)
    rw [Nat.pow_succ] at hP2
    have ew2 : IntKind.u32.wrap (((2 ^ h - 1 : Nat) : Int) - ((2 ^ (j % h) : Nat) : Int)) = ((2 ^ h - 1 - 2 ^ (j % h) : Nat) : Int) := by rw [wrapu32 (by omega) (by omega)]; omega
    have o1 : cw W 42 #[va] (S.relock S.c) = some (.int .u32 ((2 ^ h - 1 : Nat) : Int), S.relock S.c) := by
      have := Of_eq (S := S.relock S.c) g.relock (ints h) (by rw [ints_len]; omega) (show Rd IT W (S.relock S.c) va (ints h) from ra)
      rw [show ofA (ints h) 6 = 2 ^ h - 1 from of_all h hh.2] at this
      exact this
    have gF : Gd W (S.new (.row (IT.fl [((j % h : Nat) : Int)]) 0)) := g.new rfl
    have rF := rd_made (T := IT) gF (k := 0) [((j % h : Nat) : Int)] (n := 1) (c := 1) rfl (by simp) (by simp) g.n (new_self _)
    have o2 : cw W 42 #[.slice (some ⟨S.c, 0, none⟩) 1 1] ((S.new (.row [.int .i64 ((j % h : Nat) : Int)] 0)).relock (S.c + 1)) = some (.int .u32 ((2 ^ (j % h) : Nat) : Int), (S.new (.row [.int .i64 ((j % h : Nat) : Int)] 0)).relock (S.c + 1)) := by
      have := Of_eq (S := (S.new (.row (IT.fl [((j % h : Nat) : Int)]) 0)).relock (S.c + 1)) gF.relock [((j % h : Nat) : Int)] (by simp) (show Rd IT W ((S.new (.row (IT.fl [((j % h : Nat) : Int)]) 0)).relock (S.c + 1)) _ _ from rF)
      rw [of_one (j % h) (by omega)] at this
      exact this
    rw [famE_succ h j hg] at ih
    have hlen := famE_len h j hg
    obtain ⟨ad, nn, cd, rfl⟩ := hvf
    have hk0 := re
    obtain ⟨ae, ce, rfl⟩ := re.form
    generalize ((j % h : Nat) : Int) = fr at *
    generalize 2 ^ h - 1 - 2 ^ (j % h) = to at *
    generalize 2 ^ h - 1 = ph1 at *
    generalize 2 ^ (j % h) = pf at *
    have hN := g.n; have hL : S.lock ≤ S.c := g.ok.1
    rw [r24_111111010]
    simp -implicitDefEqProofs (maxSteps := 1000000) (disch := (refine id ?_; first | with_reducible assumption | ((fail_if_success (with_reducible apply isT_of)); (fail_if_success (first | with_reducible refine nat_lt_id ?_ | with_reducible refine nat_le_id ?_ | with_reducible refine nat_ne_id ?_)); first | (simp +arith only [new_c, new_lock, upd_c, upd_lock, relock_c, relock_lock]; done) | omega | (simp only [new_c, new_lock, upd_c, upd_lock, relock_c, relock_lock] <;> omega) | fail))) only [c1, c2, c3, hbx, e2, erem, o1, o2, ew2, relock_back, ↓bindV_some, ↓bindS_some, ↓bindT_some, ↓condB_true, wV_true, ↓wO_true, bindV_some, bindS_some, bindT_some, ↓gV_t, wrap64, wrapu32, ↓condK_B, wO_true, pick_bool, bin_add, bin_sub, bin_mul, bin_lss, bin_gtr, cell_at, put_cons, cellOf_row, putOf_row, nth_zero, nth_succ, new_self, eq_self, new_c, new_lock, upd_self, relock_c, relock_new, bindO_bindS, true_or, relock2, relock_id, qS_true, unlock_some, splice_nil, splice_cons, decide_true, and_self, Nat.zero_add, List.length_cons, List.length_nil, List.set_cons_zero, List.set_cons_succ, List.all_cons, List.all_nil, storable_slice, Bool.and_self, Nat.reduceAdd, Nat.reduceSub, Nat.reduceMul, Nat.reduceLeDiff, Nat.reduceLT, Nat.reduceEqDiff, Int.reduceLE, Int.reduceLT, Int.reduceAdd, Int.reduceNeg, Int.reduceEq, Int.reduceSub, Int.reduceMul, Int.reduceToNat, Bool.true_or, ↓reduceIte, reduceCtorEq, call_42, ld_23, st_23, fa_26_6, bu_32_0_1_2_3, bs_23_1_0, bs_57_1_0]
    have gA : Gd W (S.new (.row (IT.fl [fr]) 0)) := g.new rfl
    have gB : Gd W ((S.new (.row (IT.fl [fr]) 0)).new (.row (NT.fl [(⟨fr, to, 10000 + 50000 * (j : Int), 64 + (j : Int)⟩ : En)]) 0)) := gA.new rfl
    refine Wp.grow (T := NT) (new := [(⟨fr, to, 10000 + 50000 * (j : Int), 64 + (j : Int)⟩ : En)]) gB elc23 ((hk0.new g.ok rfl).new gA.ok rfl) (src_made Try.underlying23 (sz := 4) (n := 1) gA (l := NT.fl [(⟨fr, to, 10000 + 50000 * (j : Int), 64 + (j : Int)⟩ : En)]) rfl (by decide) 0) rfl (by rw [hlen]; simp only [List.length_cons, List.length_nil]; omega) fun v' S' g' sl' x2 fr' => ?_
    have x1 := Ext.pre gA.ok (rfl : objLt ((S.new (.row (IT.fl [fr]) 0)).c + 1) (.row (NT.fl [(⟨fr, to, 10000 + 50000 * (j : Int), 64 + (j : Int)⟩ : En)]) 0) = true) x2
    have x := Ext.pre g.ok (rfl : objLt (S.c + 1) (.row (IT.fl [fr]) 0) = true) x1
    have hk1 := sl'
    have hv' := (sl'.rd g').1
    obtain ⟨a', c', rfl⟩ := sl'.form
    have q1' : b1 < S'.c := Nat.lt_of_lt_of_le q1 x.c
    have q2' : b2 < S'.c := Nat.lt_of_lt_of_le q2 x.c
    have hbx' : S'.heap b2 = _ := (x.same b2 q2 (fun hh => (ne b2 hh).2.1 rfl)).trans hbx
    have hb1' : S'.heap b1 = _ := (x.same b1 q1 (fun hh => (ne b1 hh).1 rfl)).trans hb1
    have hL' : S'.lock ≤ b2 := by rw [x.lock]; exact hLb2
    simp -implicitDefEqProofs (maxSteps := 1000000) (disch := (refine id ?_; first | with_reducible assumption | ((fail_if_success (with_reducible apply isT_of)); (fail_if_success (first | with_reducible refine nat_lt_id ?_ | with_reducible refine nat_le_id ?_ | with_reducible refine nat_ne_id ?_)); first | (simp +arith only [new_c, new_lock, upd_c, upd_lock, relock_c, relock_lock]; done) | omega | (simp only [new_c, new_lock, upd_c, upd_lock, relock_c, relock_lock] <;> omega) | fail))) only [hbx', ↓bindV_some, ↓bindS_some, ↓bindT_some, ↓condB_true, wV_true, ↓wO_true, bindV_some, bindS_some, bindT_some, ↓gV_t, wrap64, wrapu32, ↓condK_B, wO_true, pick_bool, bin_add, bin_sub, bin_mul, bin_lss, bin_gtr, cell_at, put_cons, cellOf_row, putOf_row, nth_zero, nth_succ, new_self, eq_self, new_c, new_lock, upd_self, relock_c, relock_new, bindO_bindS, true_or, relock2, relock_id, qS_true, unlock_some, splice_nil, splice_cons, decide_true, and_self, Nat.zero_add, List.length_cons, List.length_nil, List.set_cons_zero, List.set_cons_succ, List.all_cons, List.all_nil, storable_slice, Bool.and_self, Nat.reduceAdd, Nat.reduceSub, Nat.reduceMul, Nat.reduceLeDiff, Nat.reduceLT, Nat.reduceEqDiff, Int.reduceLE, Int.reduceLT, Int.reduceAdd, Int.reduceNeg, Int.reduceEq, Int.reduceSub, Int.reduceMul, Int.reduceToNat, Bool.true_or, ↓reduceIte, reduceCtorEq, call_42, ld_23, st_23, fa_26_6, bu_32_0_1_2_3, bs_23_1_0, bs_57_1_0]
    have hd' := vlt1_mono x.c rd.1
    have hob : objLt S'.c (.row (fcs h (.slice ad nn cd) (.slice a' (famE h j ++ [(⟨fr, to, 10000 + 50000 * (j : Int), 64 + (j : Int)⟩ : En)]).length c')) 0) = true := by
      simp only [objLt_row, List.all_cons, List.all_nil, vlt1_int, hd', hv', vlt1_nils, Bool.and_self]
    have x3 : Ext [b2] S' _ := Ext.upd g'.ok q2' hob
    have fr2 : ∀ i, i ∈ blkOf (.slice a' (famE h j ++ [(⟨fr, to, 10000 + 50000 * (j : Int), 64 + (j : Int)⟩ : En)]).length c') → i ≠ b1 ∧ i ≠ b2 ∧ S.c ≤ i := fun i hi => by
      have := fr' i hi
      simp only [new_c] at this
      exact ⟨by omega, by omega, by omega⟩
    refine ih _ (x3.good g') (Low.ext (Low.ext w x (fun i hi => (ne i hi).2.2)) x3 (fun i hi => by rw [List.mem_singleton] at hi; omega)) ((rd.ext x nde).ext x3 fun i hi => by rw [List.mem_singleton]; exact (nd i hi).2) (fun s hs => ((h3 s hs).ext x (n3e s hs)).ext x3 fun i hi => by rw [List.mem_singleton]; exact (n3 s hs i hi).2) ((ra.ext x nae).ext x3 fun i hi => by rw [List.mem_singleton]; exact (na i hi).2) _ (hk1.keep x3 (fun i hi => by rw [List.mem_singleton]; exact (fr2 i hi).2.1) g'.ok) (fun i hi => ⟨(fr2 i hi).1, (fr2 i hi).2.1, by have := (fr2 i hi).2.2; have := w.2.1; omega⟩) (fun i hi h' => by have := rd.lt i hi; have := (fr2 i h').2.2; omega) (fun s hs i hi h' => by have := (h3 s hs).lt i hi; have := (fr2 i h').2.2; omega) (fun i hi h' => by have := ra.lt i hi; have := (fr2 i h').2.2; omega) (upd_self _ _) ((upd_ne _ h12).trans hb1') _ _ _ _ _ _ _ _ _ _ _ _ _ _ _ _ _ _ _ _ _ _ _ _ _ _ _ _ _ _ _ _
end
end Go.Proofs.Ytogcdgdnjinjkaa.F
end
section
namespace Go.Proofs.Ytogcdgdnjinjkaa.F
open Go Go.Proofs.Ytogcdgdnjinjkaa.E
set_option linter.unusedVariables false
set_option linter.unusedSimpArgs false
section
variable {W : World} {S : St}
set_option maxRecDepth 100000 in
set_option maxHeartbeats 1000000 in
theorem rfam_loop1 (S0 : St) (hN0 : W.heap.size ≤ S0.c) (hL0 : S0.lock ≤ S0.c) (h : Nat) (y : Int) (hh : 1 ≤ h ∧ h ≤ 6) {b1 b2 : Nat} (h1 : S0.c ≤ b1) (h2 : S0.c ≤ b2) (h12 : b1 ≠ b2) (m : Nat) : ∀ (j : Nat) (hmj : m + j = h) (S : St) (g : Gd W S) (w : Low S0 S) (svs : List Sv) (hsv : svs.map (·.l) = famD j) (vd : Value) (sd : Sl VT S vd svs) (h3 : ∀ s ∈ svs, Rd IT W S (.slice s.a s.n s.c) s.l) (nd : ∀ i, i ∈ blkOf vd → i ≠ b1 ∧ i ≠ b2 ∧ S0.c ≤ i) (n3 : ∀ s ∈ svs, ∀ i, i ∈ blkOf (.slice s.a s.n s.c) → i ≠ b1 ∧ i ≠ b2 ∧ i ∉ blkOf vd) (va : Value) (sa : Sl IT S va (ints j)) (na : ∀ i, i ∈ blkOf va → i ≠ b1 ∧ i ≠ b2 ∧ S0.c ≤ i) (nad : ∀ i, i ∈ blkOf vd → i ∉ blkOf va) (n3a : ∀ s ∈ svs, ∀ i, i ∈ blkOf (.slice s.a s.n s.c) → i ∉ blkOf va) (hbx : S.heap b2 = .row (fcs h vd (.slice none 0 0)) 0) (hb1 : S.heap b1 = (.row [.int .i64 0, .int .i64 0, .int .i64 0, .int .i64 0, .int .i64 0, .slice none 0 0, .slice none 0 0, .slice none 0 0, .int .i64 0] 0)) (y2 y3 y8 y9 y10 y11 y12 y13 y14 y15 y38 y39 y40 y41 y42 y43 y44 y45 y46 y47 y48 y49 y50 y51 y52 y53 y54 y55 y56 y57 y58 y59 y60 y61 y62 y63 y64 y65 y66 y67 y68 y69 y70 y71 y72 : Value),
    Wp (bindO (l24_11111010 W (.int .i64 (h : Int)) (.int .i64 y) y2 y3 (.pointer (some ⟨b1, 0, none⟩)) (.pointer (some ⟨b2, 0, none⟩)) va (.int .i64 (j : Int)) y8 y9 y10 y11 y12 y13 y14 y15 y38 y39 y40 y41 y42 y43 y44 y45 y46 y47 y48 y49 y50 y51 y52 y53 y54 y55 y56 y57 y58 y59 y60 y61 y62 y63 y64 y65 y66 y67 y68 y69 y70 y71 y72 S) (kc W c24 [1, 1, 1, 1, 1, 0, 1, 0] f24)) (fun r => ∃ q, r.1 = cvl (famC h (clampN y)) q ∧ Gd W r.2 ∧ Low S0 r.2 ∧ CfgAt W r.2 (famC h (clampN y)) q) := by
  have hWb2 : W.heap.size ≤ b2 := Nat.le_trans hN0 h2
  induction m with
  | zero =>
    intro j hmj S g w svs hsv vd sd h3 nd n3 va sa na nad n3a hbx hb1 y2 y3 y8 y9 y10 y11 y12 y13 y14 y15 y38 y39 y40 y41 y42 y43 y44 y45 y46 y47 y48 y49 y50 y51 y52 y53 y54 y55 y56 y57 y58 y59 y60 y61 y62 y63 y64 y65 y66 y67 y68 y69 y70 y71 y72
    have hjh : j = h := by omega
    have hx : ¬ ((j : Int) < (h : Int)) := by omega
    rw [hjh] at hsv sa
    have hN := g.n; have hL : S.lock ≤ S.c := g.ok.1
    rw [r24_11111010]
    simp -implicitDefEqProofs (maxSteps := 1000000) (disch := (refine id ?_; first | with_reducible assumption | ((fail_if_success (with_reducible apply isT_of)); (fail_if_success (first | with_reducible refine nat_lt_id ?_ | with_reducible refine nat_le_id ?_ | with_reducible refine nat_ne_id ?_)); first | (simp +arith only [new_c, new_lock, upd_c, upd_lock, relock_c, relock_lock]; done) | omega | (simp only [new_c, new_lock, upd_c, upd_lock, relock_c, relock_lock] <;> omega) | fail))) only [hx, k24_11111010_0, ↓bindV_some, ↓bindS_some, ↓bindT_some, ↓bindO_some, ↓condB_true, ↓condB_false, bindV_some, bindS_some, bindT_some, bindO_some, wrap64, ↓condK_B, bin_add, bin_mul, bin_lss, cell_at, put_cons, cellOf_row, putOf_row, nth_zero, nth_succ, new_self, cast0, eq_self, new_lo, new_c, upd_self, upd_c, bindO_bindS, true_or, splice_nil, splice_cons, decide_true, decide_false, and_self, Nat.zero_add, List.length_cons, List.length_nil, List.set_cons_zero, List.set_cons_succ, List.all_cons, List.all_nil, storable_slice, Bool.and_self, Nat.reduceAdd, Nat.reduceSub, Nat.reduceMul, Nat.reduceLeDiff, Nat.reduceLT, Nat.reduceEqDiff, Int.reduceLE, Int.reduceLT, Int.reduceAdd, Int.reduceNeg, Int.reduceEq, Int.reduceSub, Int.reduceMul, Int.reduceToNat, Bool.true_or, ↓reduceIte, reduceCtorEq, ld_22, st_22, fa_26_5, bs_22_1_0, bs_45_2_0_1, bs_57_1_0]
    have e0 : famE h 0 = [] := by unfold famE; split <;> rfl
    have lp := fun y2 y3 y7 y10 y11 y12 y13 y14 y15 y16 y17 y18 y19 y20 y21 y22 y23 y24 y25 y26 y27 y28 y29 y30 y31 y32 y33 y34 y35 y36 y37 y72 => rfam_loop2 S0 hN0 hL0 h y hh h1 h2 h12 svs hsv (by obtain ⟨a, c, e⟩ := sd.form; exact ⟨a, _, c, e⟩) (fun i hi => ⟨(nd i hi).1, (nd i hi).2.1⟩) (fun s hs i hi => ⟨(n3 s hs i hi).1, (n3 s hs i hi).2.1⟩) (fun i hi => ⟨(na i hi).1, (na i hi).2.1⟩) (clampN y) 0 rfl S g w (sd.rd g) h3 (sa.rd g) (.slice none 0 0) (by rw [e0]; exact sl_nil) (fun i hi => by cases hi) (fun i hi h' => by cases h') (fun s hs i hi h' => by cases h') (fun i hi h' => by cases h') hbx hb1 y2 y3 y7 y10 y11 y12 y13 y14 y15 y16 y17 y18 y19 y20 y21 y22 y23 y24 y25 y26 y27 y28 y29 y30 y31 y32 y33 y34 y35 y36 y37 y72
    rw [cast0] at lp
    exact lp _ _ _ _ _ _ _ _ _ _ _ _ _ _ _ _ _ _ _ _ _ _ _ _ _ _ _ _ _ _ _ _
  | succ m ih =>
    intro j hmj S g w svs hsv vd sd h3 nd n3 va sa na nad n3a hbx hb1 y2 y3 y8 y9 y10 y11 y12 y13 y14 y15 y38 y39 y40 y41 y42 y43 y44 y45 y46 y47 y48 y49 y50 y51 y52 y53 y54 y55 y56 y57 y58 y59 y60 y61 y62 y63 y64 y65 y66 y67 y68 y69 y70 y71 y72
    have q1 := row_lt g.ok hb1
    have q2 := row_lt g.ok hbx
    have hLb2 : S.lock ≤ b2 := by rw [w.1]; exact Nat.le_trans hL0 h2
    have hx : (j : Int) < (h : Int) := by omega
    have e2 : IntKind.i64.wrap ((j : Int) + 1) = (j : Int) + 1 := wrap64 (by omega) (by omega)
    have ec : ((j + 1 : Nat) : Int) = (j : Int) + 1 := by omega
    have ih := ih (j + 1) (by omega)
    rw [famD_succ, ec] at ih
    have hlen : svs.length = j := by rw [← famD_len j, ← hsv, List.length_map]
    have hdb := fun i (hi : i ∈ blkOf vd) => sd.lt g.ok i hi
    have hab := fun i (hi : i ∈ blkOf va) => sa.lt g.ok i hi
    have hk0 := sd
    have ha0 := sa
    obtain ⟨ad, cd, rfl⟩ := sd.form
    obtain ⟨aa, ca, rfl⟩ := sa.form
    have g1 : Gd W (S.new (.row (IT.fl [100 * ((j : Int) + 1), 100 * ((j : Int) + 1) + 50]) 0)) := g.new rfl
    have hcl2 : (VT.fl [(⟨some ⟨S.c, 0, none⟩, 2, 2, [100 * ((j : Int) + 1), 100 * ((j : Int) + 1) + 50]⟩ : Sv)]).all (vlt1 (S.c + 1)) = true := by
      show [Value.slice (some ⟨S.c, 0, none⟩) 2 2].all (vlt1 (S.c + 1)) = true
      simp
    have ho2 : objLt ((S.new (.row (IT.fl [100 * ((j : Int) + 1), 100 * ((j : Int) + 1) + 50]) 0)).c + 1) (.row (VT.fl [(⟨some ⟨S.c, 0, none⟩, 2, 2, [100 * ((j : Int) + 1), 100 * ((j : Int) + 1) + 50]⟩ : Sv)]) 0) = true := by
      rw [objLt_row]
      exact List.all_eq_true.2 fun x hx => vlt1_mono (by simp only [new_c]; omega) (List.all_eq_true.1 hcl2 x hx)
    have g2 : Gd W ((S.new (.row (IT.fl [100 * ((j : Int) + 1), 100 * ((j : Int) + 1) + 50]) 0)).new (.row (VT.fl [(⟨some ⟨S.c, 0, none⟩, 2, 2, [100 * ((j : Int) + 1), 100 * ((j : Int) + 1) + 50]⟩ : Sv)]) 0)) := g1.new ho2
    have hN := g.n; have hL : S.lock ≤ S.c := g.ok.1
    rw [r24_11111010]
    simp -implicitDefEqProofs (maxSteps := 1000000) (disch := (refine id ?_; first | with_reducible assumption | ((fail_if_success (with_reducible apply isT_of)); (fail_if_success (first | with_reducible refine nat_lt_id ?_ | with_reducible refine nat_le_id ?_ | with_reducible refine nat_ne_id ?_)); first | (simp +arith only [new_c, new_lock, upd_c, upd_lock, relock_c, relock_lock]; done) | omega | (simp only [new_c, new_lock, upd_c, upd_lock, relock_c, relock_lock] <;> omega) | fail))) only [hx, hbx, e2, ↓bindV_some, ↓bindS_some, ↓bindT_some, ↓bindO_some, ↓condB_true, ↓condB_false, bindV_some, bindS_some, bindT_some, bindO_some, wrap64, ↓condK_B, bin_add, bin_mul, bin_lss, cell_at, put_cons, cellOf_row, putOf_row, nth_zero, nth_succ, new_self, cast0, eq_self, new_lo, new_c, upd_self, upd_c, bindO_bindS, true_or, splice_nil, splice_cons, decide_true, decide_false, and_self, Nat.zero_add, List.length_cons, List.length_nil, List.set_cons_zero, List.set_cons_succ, List.all_cons, List.all_nil, storable_slice, Bool.and_self, Nat.reduceAdd, Nat.reduceSub, Nat.reduceMul, Nat.reduceLeDiff, Nat.reduceLT, Nat.reduceEqDiff, Int.reduceLE, Int.reduceLT, Int.reduceAdd, Int.reduceNeg, Int.reduceEq, Int.reduceSub, Int.reduceMul, Int.reduceToNat, Bool.true_or, ↓reduceIte, reduceCtorEq, ld_22, st_22, fa_26_5, bs_22_1_0, bs_45_2_0_1, bs_57_1_0]
    refine Wp.grow (T := VT) (new := [(⟨some ⟨S.c, 0, none⟩, 2, 2, [100 * ((j : Int) + 1), 100 * ((j : Int) + 1) + 50]⟩ : Sv)]) g2 elc22 ((hk0.new g.ok rfl).new g1.ok ho2) (src_made Try.underlying22 (sz := 1) (n := 1) g1 (l := VT.fl [(⟨some ⟨S.c, 0, none⟩, 2, 2, [100 * ((j : Int) + 1), 100 * ((j : Int) + 1) + 50]⟩ : Sv)]) rfl (by decide) 0) (List.all_eq_true.2 fun x hx => vlt1_mono (by simp only [new_c]; omega) (List.all_eq_true.1 hcl2 x hx)) (by rw [hlen]; simp only [List.length_cons, List.length_nil]; omega) fun v' S' g' sl' x2 fr' => ?_
    have x1 := Ext.pre g1.ok ho2 x2
    have x := Ext.pre g.ok (rfl : objLt (S.c + 1) (.row (IT.fl [100 * ((j : Int) + 1), 100 * ((j : Int) + 1) + 50]) 0) = true) x1
    have hk1 := sl'
    have hv' := (sl'.rd g').1
    obtain ⟨a', c', rfl⟩ := sl'.form
    have q1' : b1 < S'.c := Nat.lt_of_lt_of_le q1 x.c
    have q2' : b2 < S'.c := Nat.lt_of_lt_of_le q2 x.c
    have hbx' : S'.heap b2 = _ := (x.same b2 q2 (fun hh => (nd b2 hh).2.1 rfl)).trans hbx
    have hb1' : S'.heap b1 = _ := (x.same b1 q1 (fun hh => (nd b1 hh).1 rfl)).trans hb1
    have hL' : S'.lock ≤ b2 := by rw [x.lock]; exact hLb2
    simp -implicitDefEqProofs (maxSteps := 1000000) (disch := (refine id ?_; first | with_reducible assumption | ((fail_if_success (with_reducible apply isT_of)); (fail_if_success (first | with_reducible refine nat_lt_id ?_ | with_reducible refine nat_le_id ?_ | with_reducible refine nat_ne_id ?_)); first | (simp +arith only [new_c, new_lock, upd_c, upd_lock, relock_c, relock_lock]; done) | omega | (simp only [new_c, new_lock, upd_c, upd_lock, relock_c, relock_lock] <;> omega) | fail))) only [hbx', e2, ↓bindV_some, ↓bindS_some, ↓bindT_some, ↓bindO_some, ↓condB_true, ↓condB_false, bindV_some, bindS_some, bindT_some, bindO_some, wrap64, ↓condK_B, bin_add, bin_mul, bin_lss, cell_at, put_cons, cellOf_row, putOf_row, nth_zero, nth_succ, new_self, cast0, eq_self, new_lo, new_c, upd_self, upd_c, bindO_bindS, true_or, splice_nil, splice_cons, decide_true, decide_false, and_self, Nat.zero_add, List.length_cons, List.length_nil, List.set_cons_zero, List.set_cons_succ, List.all_cons, List.all_nil, storable_slice, Bool.and_self, Nat.reduceAdd, Nat.reduceSub, Nat.reduceMul, Nat.reduceLeDiff, Nat.reduceLT, Nat.reduceEqDiff, Int.reduceLE, Int.reduceLT, Int.reduceAdd, Int.reduceNeg, Int.reduceEq, Int.reduceSub, Int.reduceMul, Int.reduceToNat, Bool.true_or, ↓reduceIte, reduceCtorEq, ld_22, st_22, fa_26_5, bs_22_1_0, bs_45_2_0_1, bs_57_1_0]
    have hob : objLt S'.c (.row (fcs h (.slice a' (svs ++ [(⟨some ⟨S.c, 0, none⟩, 2, 2, [100 * ((j : Int) + 1), 100 * ((j : Int) + 1) + 50]⟩ : Sv)]).length c') (.slice none 0 0)) 0) = true := by
      simp only [objLt_row, List.all_cons, List.all_nil, vlt1_int, hv', vlt1_nils, Bool.and_self]
    have x3 : Ext [b2] S' (S'.upd b2 (.row (fcs h (.slice a' (svs ++ [(⟨some ⟨S.c, 0, none⟩, 2, 2, [100 * ((j : Int) + 1), 100 * ((j : Int) + 1) + 50]⟩ : Sv)]).length c') (.slice none 0 0)) 0)) := Ext.upd g'.ok q2' hob
    have fr2 : ∀ i, i ∈ blkOf (.slice a' (svs ++ [(⟨some ⟨S.c, 0, none⟩, 2, 2, [100 * ((j : Int) + 1), 100 * ((j : Int) + 1) + 50]⟩ : Sv)]).length c') → i ≠ b1 ∧ i ≠ b2 ∧ S.c + 1 + 1 ≤ i ∧ i < S'.c := fun i hi => by
      have := fr' i hi
      have hlt := hk1.lt g'.ok i hi
      simp only [new_c] at this
      exact ⟨by omega, by omega, by omega, hlt⟩
    have hnew : S'.heap S.c = (.row (IT.fl [100 * ((j : Int) + 1), 100 * ((j : Int) + 1) + 50]) 0) := by
      rw [x2.same S.c (by simp only [new_c]; omega) (fun hh => by have := hdb S.c hh; omega), new_lo _ (by simp only [new_c]; omega)]
      exact new_self _
    have g3 := x3.good g'
    have hcS : S.c + 1 + 1 ≤ S'.c := by have := x2.c; simp only [new_c] at this; exact this
    have hbx3 : (S'.upd b2 (.row (fcs h (.slice a' (svs ++ [(⟨some ⟨S.c, 0, none⟩, 2, 2, [100 * ((j : Int) + 1), 100 * ((j : Int) + 1) + 50]⟩ : Sv)]).length c') (.slice none 0 0)) 0)).heap b2 = _ := upd_self _ _
    have hb13 : (S'.upd b2 (.row (fcs h (.slice a' (svs ++ [(⟨some ⟨S.c, 0, none⟩, 2, 2, [100 * ((j : Int) + 1), 100 * ((j : Int) + 1) + 50]⟩ : Sv)]).length c') (.slice none 0 0)) 0)).heap b1 = _ := (upd_ne _ h12).trans hb1'
    have w3 : Low S0 (S'.upd b2 (.row (fcs h (.slice a' (svs ++ [(⟨some ⟨S.c, 0, none⟩, 2, 2, [100 * ((j : Int) + 1), 100 * ((j : Int) + 1) + 50]⟩ : Sv)]).length c') (.slice none 0 0)) 0)) := Low.ext (Low.ext w x (fun i hi => (nd i hi).2.2)) x3 (fun i hi => by rw [List.mem_singleton] at hi; omega)
    have sd3 := hk1.keep x3 (fun i hi => by rw [List.mem_singleton]; exact (fr2 i hi).2.1) g'.ok
    have h33 : ∀ s ∈ svs ++ [(⟨some ⟨S.c, 0, none⟩, 2, 2, [100 * ((j : Int) + 1), 100 * ((j : Int) + 1) + 50]⟩ : Sv)], Rd IT W (S'.upd b2 (.row (fcs h (.slice a' (svs ++ [(⟨some ⟨S.c, 0, none⟩, 2, 2, [100 * ((j : Int) + 1), 100 * ((j : Int) + 1) + 50]⟩ : Sv)]).length c') (.slice none 0 0)) 0)) (.slice s.a s.n s.c) s.l := by
      intro s hs
      rcases List.mem_append.1 hs with hs | hs
      · exact ((h3 s hs).ext x (fun i hi => (n3 s hs i hi).2.2)).ext x3 fun i hi => by rw [List.mem_singleton]; exact (n3 s hs i hi).2.1
      · rw [List.mem_singleton] at hs
        subst hs
        refine (rd_made (T := IT) g' (k := 0) _ rfl (by simp) (by simp) (by have := g.n; omega) hnew).ext x3 fun i hi => ?_
        simp only [blkOf, List.mem_singleton] at hi ⊢
        omega
    have sa3 := (ha0.keep x (fun i hi hd => nad i hd hi) g.ok).keep x3 (fun i hi => by rw [List.mem_singleton]; exact (na i hi).2.1) g'.ok
    have hbl : ∀ s ∈ svs ++ [(⟨some ⟨S.c, 0, none⟩, 2, 2, [100 * ((j : Int) + 1), 100 * ((j : Int) + 1) + 50]⟩ : Sv)], ∀ i, i ∈ blkOf (.slice s.a s.n s.c) → i ≠ b1 ∧ i ≠ b2 ∧ i ∉ blkOf (.slice a' (svs ++ [(⟨some ⟨S.c, 0, none⟩, 2, 2, [100 * ((j : Int) + 1), 100 * ((j : Int) + 1) + 50]⟩ : Sv)]).length c') ∧ i ∉ blkOf (.slice aa (ints j).length ca) ∧ i < S'.c := by
      intro s hs i hi
      rcases List.mem_append.1 hs with hs | hs
      · have hlt := (h3 s hs).lt i hi
        exact ⟨(n3 s hs i hi).1, (n3 s hs i hi).2.1, fun h' => by have := (fr2 i h').2.2; omega, n3a s hs i hi, by omega⟩
      · rw [List.mem_singleton] at hs
        subst hs
        simp only [blkOf, List.mem_singleton] at hi
        exact ⟨by omega, by omega, fun h' => by have := (fr2 i h').2.2; omega, fun h' => by have := hab i h'; omega, by omega⟩
    have hc3 : (S'.upd b2 (.row (fcs h (.slice a' (svs ++ [(⟨some ⟨S.c, 0, none⟩, 2, 2, [100 * ((j : Int) + 1), 100 * ((j : Int) + 1) + 50]⟩ : Sv)]).length c') (.slice none 0 0)) 0)).c = S'.c := rfl
    generalize S'.upd b2 (.row (fcs h (.slice a' (svs ++ [(⟨some ⟨S.c, 0, none⟩, 2, 2, [100 * ((j : Int) + 1), 100 * ((j : Int) + 1) + 50]⟩ : Sv)]).length c') (.slice none 0 0)) 0) = S3 at *
    rw [← hc3]
    have gC : Gd W (S3.new (.row (IT.fl [(j : Int)]) 0)) := g3.new rfl
    refine Wp.grow (T := IT) (new := [(j : Int)]) gC elc57 (sa3.new g3.ok rfl) (src_made Try.underlying57 (sz := 1) (n := 1) g3 (l := IT.fl [(j : Int)]) rfl (by decide) 0) rfl (by rw [ints_len]; simp only [List.length_cons, List.length_nil]; omega) fun va' S4 g4 sl4 x4 fr4 => ?_
    have x5 := Ext.pre g3.ok (rfl : objLt (S3.c + 1) (.row (IT.fl [(j : Int)]) 0) = true) x4
    rw [← ints_succ] at sl4
    have fr5 : ∀ i, i ∈ blkOf va' → S3.c + 1 ≤ i := fun i hi => by have := fr4 i hi; simp only [new_c] at this; exact this
    have hw := w.2.1
    refine ih S4 g4 (Low.ext w3 x5 (fun i hi => (na i hi).2.2)) (svs ++ [(⟨some ⟨S.c, 0, none⟩, 2, 2, [100 * ((j : Int) + 1), 100 * ((j : Int) + 1) + 50]⟩ : Sv)]) (by rw [List.map_append, hsv]; rfl) _ (sd3.keep x5 (fun i hi h' => by have := (fr2 i hi).2.2.1; have := hab i h'; omega) g3.ok) (fun s hs => (h33 s hs).ext x5 fun i hi => (hbl s hs i hi).2.2.2.1) (fun i hi => ⟨(fr2 i hi).1, (fr2 i hi).2.1, by have := (fr2 i hi).2.2.1; omega⟩) (fun s hs i hi => ⟨(hbl s hs i hi).1, (hbl s hs i hi).2.1, (hbl s hs i hi).2.2.1⟩) va' sl4 (fun i hi => by have := fr5 i hi; exact ⟨by omega, by omega, by omega⟩) (fun i hi h' => by have := (fr2 i hi).2.2.2; have := fr5 i h'; omega) (fun s hs i hi h' => by have := (hbl s hs i hi).2.2.2.2; have := fr5 i h'; omega) ((x5.same b2 (by omega) (fun h' => (na b2 h').2.1 rfl)).trans hbx3) ((x5.same b1 (by omega) (fun h' => (na b1 h').1 rfl)).trans hb13) _ _ _ _ _ _ _ _ _ _ _ _ _ _ _ _ _ _ _ _ _ _ _ _ _ _ _ _ _ _ _ _ _ _ _ _ _ _ _ _ _ _ _ _ _
theorem RFamily_ok {S : St} (g : Gd W S) (x y : Int) : Wp (cw W 24 #[i64 x, i64 y] S) (fun r => ∃ q, r.1 = cvl (famC (clampH x) (clampN y)) q ∧ Gd W r.2 ∧ Low S r.2 ∧ CfgAt W r.2 (famC (clampH x) (clampN y)) q) := by
  rw [eq24]
  have hh : 1 ≤ clampH x ∧ clampH x ≤ 6 := by unfold clampH; split; omega; split <;> omega
  have g1 : Gd W (S.new (.row [.int .i64 0, .int .i64 0, .int .i64 0, .int .i64 0, .int .i64 0, .slice none 0 0, .slice none 0 0, .slice none 0 0, .int .i64 0] 0)) := g.new rfl
  have lp := fun (h : Nat) (hh : 1 ≤ h ∧ h ≤ 6) (g2 : Gd W ((S.new (.row [.int .i64 0, .int .i64 0, .int .i64 0, .int .i64 0, .int .i64 0, .slice none 0 0, .slice none 0 0, .slice none 0 0, .int .i64 0] 0)).new (.row (fcs h (.slice none 0 0) (.slice none 0 0)) 0))) => fun y2 y3 y8 y9 y10 y11 y12 y13 y14 y15 y38 y39 y40 y41 y42 y43 y44 y45 y46 y47 y48 y49 y50 y51 y52 y53 y54 y55 y56 y57 y58 y59 y60 y61 y62 y63 y64 y65 y66 y67 y68 y69 y70 y71 y72 => rfam_loop1 S g.n g.ok.1 h y hh (b1 := S.c) (b2 := S.c + 1) (Nat.le_refl _) (Nat.le_succ _) (by omega) h 0 rfl ((S.new (.row [.int .i64 0, .int .i64 0, .int .i64 0, .int .i64 0, .int .i64 0, .slice none 0 0, .slice none 0 0, .slice none 0 0, .int .i64 0] 0)).new (.row (fcs h (.slice none 0 0) (.slice none 0 0)) 0)) g2 (Low.new (Low.new (Low.rfl' S) _) _) [] rfl (.slice none 0 0) sl_nil (fun s hs => by cases hs) (fun i hi => by cases hi) (fun s hs => by cases hs) (.slice none 0 0) sl_nil (fun i hi => by cases hi) (fun i hi => by cases hi) (fun s hs => by cases hs) (new_self _) (by rw [new_lo _ (by simp only [new_c]; omega)]; exact new_self _) y2 y3 y8 y9 y10 y11 y12 y13 y14 y15 y38 y39 y40 y41 y42 y43 y44 y45 y46 y47 y48 y49 y50 y51 y52 y53 y54 y55 y56 y57 y58 y59 y60 y61 y62 y63 y64 y65 y66 y67 y68 y69 y70 y71 y72
  rw [cast0] at lp
  have hN := g.n; have hL : S.lock ≤ S.c := g.ok.1
  by_cases c1 : x < 1
  · have eh : clampH x = 1 := by unfold clampH; rw [if_pos c1]
    rw [eh] at hh ⊢
    have l1 := lp 1 hh (g1.new rfl)
    rw [cast1] at l1
    simp -implicitDefEqProofs (maxSteps := 1000000) (disch := (refine id ?_; first | with_reducible assumption | ((first | with_reducible refine nat_lt_id ?_ | with_reducible refine nat_le_id ?_ | with_reducible refine nat_ne_id ?_); (first | (simp +arith only [new_c, new_lock, upd_c, upd_lock, relock_c, relock_lock]; done) | (simp only [new_c, new_lock, upd_c, upd_lock, relock_c, relock_lock]; with_reducible assumption) | (refine Nat.le_trans hL ?_; simp +arith only [new_c, new_lock, upd_c, upd_lock, relock_c, relock_lock]; done) | fail)) )) only [c1, ↓bindV_some, ↓bindS_some, ↓bindT_some, ↓condB_true, ↓condB_false, bindV_some, bindS_some, bindT_some, ↓condK_B, bin_lss, bin_gtr, put_cons, putOf_row, new_self, cast0, cast1, eq_self, new_upd, new_at, new_lo, new_c, splice_nil, splice_cons, decide_true, decide_false, and_self, Nat.zero_add, List.length_cons, List.length_nil, List.set_cons_zero, List.set_cons_succ, List.all_cons, List.all_nil, storable_int, storable_slice, Bool.and_self, Nat.reduceAdd, Nat.reduceSub, Nat.reduceMul, Nat.reduceLeDiff, Nat.reduceLT, Nat.reduceEqDiff, Int.reduceLE, Int.reduceLT, Int.reduceAdd, Int.reduceNeg, Int.reduceEq, Int.reduceSub, Int.reduceMul, Int.reduceToNat, ↓reduceIte, Nat.le_refl, decide_eq_true_eq, reduceCtorEq, st_26, al_26, bu_26_0_1_2_3_4_8]
    exact l1 _ _ _ _ _ _ _ _ _ _ _ _ _ _ _ _ _ _ _ _ _ _ _ _ _ _ _ _ _ _ _ _ _ _ _ _ _ _ _ _ _ _ _ _ _
  · by_cases c2 : 6 < x
    · have eh : clampH x = 6 := by unfold clampH; rw [if_neg c1, if_pos c2]
      rw [eh] at hh ⊢
      have l1 := lp 6 hh (g1.new rfl)
      rw [show ((6 : Nat) : Int) = 6 from rfl] at l1
      simp -implicitDefEqProofs (maxSteps := 1000000) (disch := (refine id ?_; first | with_reducible assumption | ((first | with_reducible refine nat_lt_id ?_ | with_reducible refine nat_le_id ?_ | with_reducible refine nat_ne_id ?_); (first | (simp +arith only [new_c, new_lock, upd_c, upd_lock, relock_c, relock_lock]; done) | (simp only [new_c, new_lock, upd_c, upd_lock, relock_c, relock_lock]; with_reducible assumption) | (refine Nat.le_trans hL ?_; simp +arith only [new_c, new_lock, upd_c, upd_lock, relock_c, relock_lock]; done) | fail)) )) only [c1, c2, ↓bindV_some, ↓bindS_some, ↓bindT_some, ↓condB_true, ↓condB_false, bindV_some, bindS_some, bindT_some, ↓condK_B, bin_lss, bin_gtr, put_cons, putOf_row, new_self, cast0, cast1, eq_self, new_upd, new_at, new_lo, new_c, splice_nil, splice_cons, decide_true, decide_false, and_self, Nat.zero_add, List.length_cons, List.length_nil, List.set_cons_zero, List.set_cons_succ, List.all_cons, List.all_nil, storable_int, storable_slice, Bool.and_self, Nat.reduceAdd, Nat.reduceSub, Nat.reduceMul, Nat.reduceLeDiff, Nat.reduceLT, Nat.reduceEqDiff, Int.reduceLE, Int.reduceLT, Int.reduceAdd, Int.reduceNeg, Int.reduceEq, Int.reduceSub, Int.reduceMul, Int.reduceToNat, ↓reduceIte, Nat.le_refl, decide_eq_true_eq, reduceCtorEq, st_26, al_26, bu_26_0_1_2_3_4_8]
      exact l1 _ _ _ _ _ _ _ _ _ _ _ _ _ _ _ _ _ _ _ _ _ _ _ _ _ _ _ _ _ _ _ _ _ _ _ _ _ _ _ _ _ _ _ _ _
    · have eh : ((clampH x : Nat) : Int) = x := by unfold clampH; rw [if_neg c1, if_neg c2]; omega
      generalize clampH x = h at *
      have l1 := lp h hh (g1.new rfl)
      subst eh
      simp -implicitDefEqProofs (maxSteps := 1000000) (disch := (refine id ?_; first | with_reducible assumption | ((first | with_reducible refine nat_lt_id ?_ | with_reducible refine nat_le_id ?_ | with_reducible refine nat_ne_id ?_); (first | (simp +arith only [new_c, new_lock, upd_c, upd_lock, relock_c, relock_lock]; done) | (simp only [new_c, new_lock, upd_c, upd_lock, relock_c, relock_lock]; with_reducible assumption) | (refine Nat.le_trans hL ?_; simp +arith only [new_c, new_lock, upd_c, upd_lock, relock_c, relock_lock]; done) | fail)) )) only [c1, c2, ↓bindV_some, ↓bindS_some, ↓bindT_some, ↓condB_true, ↓condB_false, bindV_some, bindS_some, bindT_some, ↓condK_B, bin_lss, bin_gtr, put_cons, putOf_row, new_self, cast0, cast1, eq_self, new_upd, new_at, new_lo, new_c, splice_nil, splice_cons, decide_true, decide_false, and_self, Nat.zero_add, List.length_cons, List.length_nil, List.set_cons_zero, List.set_cons_succ, List.all_cons, List.all_nil, storable_int, storable_slice, Bool.and_self, Nat.reduceAdd, Nat.reduceSub, Nat.reduceMul, Nat.reduceLeDiff, Nat.reduceLT, Nat.reduceEqDiff, Int.reduceLE, Int.reduceLT, Int.reduceAdd, Int.reduceNeg, Int.reduceEq, Int.reduceSub, Int.reduceMul, Int.reduceToNat, ↓reduceIte, Nat.le_refl, decide_eq_true_eq, reduceCtorEq, st_26, al_26, bu_26_0_1_2_3_4_8]
      exact l1 _ _ _ _ _ _ _ _ _ _ _ _ _ _ _ _ _ _ _ _ _ _ _ _ _ _ _ _ _ _ _ _ _ _ _ _ _ _ _ _ _ _ _ _ _
end
end Go.Proofs.Ytogcdgdnjinjkaa.F
end
section
namespace Go.Proofs.Ytogcdgdnjinjkaa.F
open Go Go.Proofs.Ytogcdgdnjinjkaa.E
set_option linter.unusedVariables false
set_option linter.unusedSimpArgs false
theorem fam_check : ∀ h, h < 7 → 1 ≤ h → ∀ n, n < 17 → checkN (famC h n) = 0 := by decide +kernel
section
variable {W : World}
set_option maxRecDepth 100000 in
set_option maxHeartbeats 1000000 in
theorem family_law {S : St} (g : Gd W S) (x : Int) (wx : (Lit.int .i64 x).wf = true) (y : Int) (wy : (Lit.int .i64 y).wf = true) : Wp (cw W 6 #[i64 x, i64 y] S) fun r => r.1 = .bool true := by
  have e0 := fixed_eq g
  have hh : 1 ≤ clampH x ∧ clampH x ≤ 6 := by unfold clampH; split; omega; split <;> omega
  have hn : clampN y ≤ 16 := by unfold clampN; split; omega; split <;> omega
  have hck := fam_check (clampH x) (by omega) hh.1 (clampN y) (by omega)
  rw [eq6]
  have hN := g.n; have hL : S.lock ≤ S.c := g.ok.1
  simp -implicitDefEqProofs (maxSteps := 1000000) (disch := (refine id ?_; first | with_reducible assumption | (with_reducible refine IsT.left ?_; with_reducible assumption) | (with_reducible refine IsT.left (IsT.left ?_); with_reducible assumption) | ((first | with_reducible refine nat_lt_id ?_ | with_reducible refine nat_le_id ?_ | with_reducible refine nat_ne_id ?_); (first | (simp +arith only [new_c, new_lock, upd_c, upd_lock, relock_c, relock_lock]; done) | (simp only [new_c, new_lock, upd_c, upd_lock, relock_c, relock_lock]; with_reducible assumption) | (refine Nat.le_trans hN ?_; simp +arith only [new_c, new_lock, upd_c, upd_lock, relock_c, relock_lock]; done) | (refine Nat.le_trans hL ?_; simp +arith only [new_c, new_lock, upd_c, upd_lock, relock_c, relock_lock]; done) | (apply Nat.lt_of_lt_of_le; with_reducible assumption; simp +arith only [new_c, new_lock, upd_c, upd_lock, relock_c, relock_lock]; done) | (apply Nat.ne_of_lt; apply Nat.lt_of_lt_of_le; with_reducible assumption; simp +arith only [new_c, new_lock, upd_c, upd_lock, relock_c, relock_lock]; done) | fail)) | ((fail_if_success (with_reducible apply isT_of)); (fail_if_success (first | with_reducible refine nat_lt_id ?_ | with_reducible refine nat_le_id ?_ | with_reducible refine nat_ne_id ?_)); first | (simp +arith only [new_c, new_lock, upd_c, upd_lock, relock_c, relock_lock]; done) | (refine Nat.le_trans hN ?_; simp +arith only [new_c, new_lock, upd_c, upd_lock, relock_c, relock_lock]; done) | (refine Nat.le_trans hL ?_; simp +arith only [new_c, new_lock, upd_c, upd_lock, relock_c, relock_lock]; done) | omega | (with_reducible apply Gd.cl; with_reducible assumption) | (simp only [new_c, new_lock, upd_c, upd_lock, relock_c, relock_lock] <;> omega) | with_reducible exact Low.rfl' _ | (with_reducible refine Low.new ?_ _; (repeat (first | with_reducible exact Low.rfl' _ | with_reducible assumption | refine Low.new ?_ _ | refine Low.upd ?_ (by (first | omega | (simp only [new_c, upd_c, relock_c] <;> omega))) _)); done) | (with_reducible refine Low.upd ?_ (by (first | omega | (simp only [new_c, upd_c, relock_c] <;> omega))) _; (repeat (first | with_reducible exact Low.rfl' _ | with_reducible assumption | refine Low.new ?_ _ | refine Low.upd ?_ (by (first | omega | (simp only [new_c, upd_c, relock_c] <;> omega))) _)); done) | (with_reducible refine Gd.new ?_ (by (simp only [objLt_row, objLt_dead, List.all_cons, List.all_nil, vlt1_int, vlt1_bool, vlt1_string, vlt1_nilp, vlt1_nils, vlt1_ptr, vlt1_sl, vlt1_func, vlt0_ptr, vlt0_sl, vlt0_int, vlt0_bool, vlt0_string, vlt0_nilp, vlt0_nils, vlt_int, vlt_bool, vlt_string, vlt_nilp, vlt_nils, vlt_ptr, vlt_sl, vlt_agg, vlt_func, List.toArray, Bool.and_true, Bool.true_and, Bool.and_self, Bool.and_eq_true, decide_eq_true_eq, and_true, true_and, new_c, upd_c, relock_c] <;> omega)); (repeat (first | with_reducible assumption | refine Gd.new ?_ (by (simp only [objLt_row, objLt_dead, List.all_cons, List.all_nil, vlt1_int, vlt1_bool, vlt1_string, vlt1_nilp, vlt1_nils, vlt1_ptr, vlt1_sl, vlt1_func, vlt0_ptr, vlt0_sl, vlt0_int, vlt0_bool, vlt0_string, vlt0_nilp, vlt0_nils, vlt_int, vlt_bool, vlt_string, vlt_nilp, vlt_nils, vlt_ptr, vlt_sl, vlt_agg, vlt_func, List.toArray, Bool.and_true, Bool.true_and, Bool.and_self, Bool.and_eq_true, decide_eq_true_eq, and_true, true_and, new_c, upd_c, relock_c] <;> omega)) | refine Gd.upd ?_ (by (first | omega | (simp only [new_c, upd_c, relock_c] <;> omega))) (by (simp only [objLt_row, objLt_dead, List.all_cons, List.all_nil, vlt1_int, vlt1_bool, vlt1_string, vlt1_nilp, vlt1_nils, vlt1_ptr, vlt1_sl, vlt1_func, vlt0_ptr, vlt0_sl, vlt0_int, vlt0_bool, vlt0_string, vlt0_nilp, vlt0_nils, vlt_int, vlt_bool, vlt_string, vlt_nilp, vlt_nils, vlt_ptr, vlt_sl, vlt_agg, vlt_func, List.toArray, Bool.and_true, Bool.true_and, Bool.and_self, Bool.and_eq_true, decide_eq_true_eq, and_true, true_and, new_c, upd_c, relock_c] <;> omega)) | refine Gd.relock ?_)); done) | (with_reducible refine Gd.upd ?_ (by (first | omega | (simp only [new_c, upd_c, relock_c] <;> omega))) (by (simp only [objLt_row, objLt_dead, List.all_cons, List.all_nil, vlt1_int, vlt1_bool, vlt1_string, vlt1_nilp, vlt1_nils, vlt1_ptr, vlt1_sl, vlt1_func, vlt0_ptr, vlt0_sl, vlt0_int, vlt0_bool, vlt0_string, vlt0_nilp, vlt0_nils, vlt_int, vlt_bool, vlt_string, vlt_nilp, vlt_nils, vlt_ptr, vlt_sl, vlt_agg, vlt_func, List.toArray, Bool.and_true, Bool.true_and, Bool.and_self, Bool.and_eq_true, decide_eq_true_eq, and_true, true_and, new_c, upd_c, relock_c] <;> omega)); (repeat (first | with_reducible assumption | refine Gd.new ?_ (by (simp only [objLt_row, objLt_dead, List.all_cons, List.all_nil, vlt1_int, vlt1_bool, vlt1_string, vlt1_nilp, vlt1_nils, vlt1_ptr, vlt1_sl, vlt1_func, vlt0_ptr, vlt0_sl, vlt0_int, vlt0_bool, vlt0_string, vlt0_nilp, vlt0_nils, vlt_int, vlt_bool, vlt_string, vlt_nilp, vlt_nils, vlt_ptr, vlt_sl, vlt_agg, vlt_func, List.toArray, Bool.and_true, Bool.true_and, Bool.and_self, Bool.and_eq_true, decide_eq_true_eq, and_true, true_and, new_c, upd_c, relock_c] <;> omega)) | refine Gd.upd ?_ (by (first | omega | (simp only [new_c, upd_c, relock_c] <;> omega))) (by (simp only [objLt_row, objLt_dead, List.all_cons, List.all_nil, vlt1_int, vlt1_bool, vlt1_string, vlt1_nilp, vlt1_nils, vlt1_ptr, vlt1_sl, vlt1_func, vlt0_ptr, vlt0_sl, vlt0_int, vlt0_bool, vlt0_string, vlt0_nilp, vlt0_nils, vlt_int, vlt_bool, vlt_string, vlt_nilp, vlt_nils, vlt_ptr, vlt_sl, vlt_agg, vlt_func, List.toArray, Bool.and_true, Bool.true_and, Bool.and_self, Bool.and_eq_true, decide_eq_true_eq, and_true, true_and, new_c, upd_c, relock_c] <;> omega)) | refine Gd.relock ?_)); done) | (with_reducible refine Gd.relock2 ?_ ?_; rotate_left; simp only [new_c, upd_c, relock_c]; (repeat (first | with_reducible assumption | refine Gd.new ?_ (by (simp only [objLt_row, objLt_dead, List.all_cons, List.all_nil, vlt1_int, vlt1_bool, vlt1_string, vlt1_nilp, vlt1_nils, vlt1_ptr, vlt1_sl, vlt1_func, vlt0_ptr, vlt0_sl, vlt0_int, vlt0_bool, vlt0_string, vlt0_nilp, vlt0_nils, vlt_int, vlt_bool, vlt_string, vlt_nilp, vlt_nils, vlt_ptr, vlt_sl, vlt_agg, vlt_func, List.toArray, Bool.and_true, Bool.true_and, Bool.and_self, Bool.and_eq_true, decide_eq_true_eq, and_true, true_and, new_c, upd_c, relock_c] <;> omega)) | refine Gd.upd ?_ (by (first | omega | (simp only [new_c, upd_c, relock_c] <;> omega))) (by (simp only [objLt_row, objLt_dead, List.all_cons, List.all_nil, vlt1_int, vlt1_bool, vlt1_string, vlt1_nilp, vlt1_nils, vlt1_ptr, vlt1_sl, vlt1_func, vlt0_ptr, vlt0_sl, vlt0_int, vlt0_bool, vlt0_string, vlt0_nilp, vlt0_nils, vlt_int, vlt_bool, vlt_string, vlt_nilp, vlt_nils, vlt_ptr, vlt_sl, vlt_agg, vlt_func, List.toArray, Bool.and_true, Bool.true_and, Bool.and_self, Bool.and_eq_true, decide_eq_true_eq, and_true, true_and, new_c, upd_c, relock_c] <;> omega)) | refine Gd.relock ?_)); done) | (with_reducible refine nat_eq_id ?_; first | with_reducible rfl | (simp only [new_lock, upd_lock, relock_lock, new_c, upd_c, relock_c]; done)) | (simp (disch := (simp only [new_c, upd_c, relock_c] <;> omega)) only [new_at, new_lo, upd_self, upd_lo, relock_heap]; done) | (with_reducible refine Rd.low (by with_reducible assumption) ?_; (repeat (first | with_reducible exact Low.rfl' _ | with_reducible assumption | refine Low.new ?_ _ | refine Low.upd ?_ (by (first | omega | (simp only [new_c, upd_c, relock_c] <;> omega))) _)); done) | (simp only [flatR_int, flatR_bool, flatR_string, flatR_tuple, flatR_agg, flat_int, flat_bool, flat_string, flat_agg, flat0_int, flat0_bool, flat0_string, List.all_cons, List.all_nil, Bool.and_self, Bool.and_true, Bool.true_and]; done) | ((first | with_reducible refine int_lt_id ?_ | with_reducible refine int_le_id ?_); simp only [IsT, decide_eq_true_eq, Bool.and_eq_true, Bool.or_eq_true, Bool.not_eq_true', decide_eq_false_iff_not] at *; omega) | (simp only [objLt_row, objLt_dead, List.all_cons, List.all_nil, vlt1_int, vlt1_bool, vlt1_string, vlt1_nilp, vlt1_nils, vlt1_ptr, vlt1_sl, vlt1_func, vlt0_ptr, vlt0_sl, vlt0_int, vlt0_bool, vlt0_string, vlt0_nilp, vlt0_nils, vlt_int, vlt_bool, vlt_string, vlt_nilp, vlt_nils, vlt_ptr, vlt_sl, vlt_agg, vlt_func, List.toArray, Bool.and_true, Bool.true_and, Bool.and_self, Bool.and_eq_true, decide_eq_true_eq, and_true, true_and, new_c, upd_c, relock_c]; (try omega); done) | fail))) only [e0, ↓bindV_some, ↓bindS_some, ↓bindT_some, ↓bindO_some, ↓condK_true, ↓condK_false, ↓condB_true, ↓condB_false, ↓gV_tt, ↓gV_tf, ↓gV_ft, ↓gV_ff, ↓gV_undef, wV_true, wV_false, ↓wO_true, ↓wO_false, ↓wS_true, ↓wS_false, ↓wT_true, ↓wT_false, bindV_some, bindS_some, bindT_some, bindO_some, condK_true, condK_false, ↓gV_t, ↓gV_f, gV_wt, gV_wf, wV_wV, wV_and, wrap64, wrapu32, wrapu8, wrapu64, ↓condK_B, wO_true, wO_false, wS_true, wS_false, wT_true, wT_false, wV_pos, wO_val, wS_val, pick_and, pick_or, pick_bool, pick_int, gcR_B, bindO_B, bin_add, bin_sub, bin_mul, bin_lss, bin_leq, bin_gtr, bin_geq, bin_eql, bin_neq, bin_and, bin_or, bin_xor, bin_andNot, un_not, un_neg, un_compl32, pick_true, pick_false, bin_str_eql, bin_str_neq, ex_nth, nil_ptr, nil_func, box_agg, box_int, box_bool, box_string, box_slice, box_pointer, cell_at, cells_at, put_cons, cellOf_row, cellsOf_row, putOf_row, nth_zero, nth_succ, aggOf_some, new_self, pos1, cast0, cast1, eq_self, new_upd, new_at, new_lo, upd_lo, new_c, new_lock, upd_self, upd_c, upd_lock, relock_heap, relock_c, relock_lock, relock_new, bindO_bindS, bindO_bindO, pick_or2, or_false, false_or, or_true, true_or, or_self, relock2, relock_id, storable_func, box_func, bne_ff, bne_tt, bne_tf, bne_ft, beq_tt, beq_ff, qS_true, unlock_some, splice_nil, splice_cons, decide_true, decide_false, beq_self_eq_true, and_self, and_true, true_and, and_false, false_and, if_true, if_false, Bool.not_true, Bool.not_false, Nat.zero_add, Nat.add_zero, List.length_cons, List.length_nil, List.drop_zero, List.drop_succ_cons, List.take_succ_cons, List.take_zero, List.set_cons_zero, List.set_cons_succ, List.all_cons, List.all_nil, storable_int, storable_bool, storable_string, storable_pointer, storable_slice, Bool.and_true, Bool.true_and, Bool.and_self, bff, bft, not_true_eq_false, not_false_eq_true, Nat.reduceAdd, Nat.reduceSub, Nat.reduceMul, Nat.reduceLeDiff, Nat.reduceLT, Nat.reduceEqDiff, Int.reduceLE, Int.reduceLT, Int.reduceAdd, Int.reduceNeg, Int.reduceEq, Int.reduceSub, Int.reduceMul, Int.reduceToNat, Int.toNat_natCast, Int.toNat_zero, Nat.zero_mul, Nat.mul_one, Bool.or_false, Bool.false_or, Bool.false_and, Bool.and_false, Bool.or_true, Bool.true_or, ↓reduceIte, Nat.le_refl, Option.isNone_some, Option.isNone_none, decide_eq_true_eq, Bool.not_eq_true', Bool.and_eq_true, Bool.or_eq_true, decide_eq_false_iff_not, Bool.not_not, reduceCtorEq, call_10, call_11, call_12, call_13, call_14, call_15, call_16, call_17, call_18, call_19, call_20, call_21, call_22, call_23, call_24, call_25, call_26, call_27, call_28, call_29, call_30, call_31, call_32, call_34, call_35, call_36, call_37, call_38, call_39, call_40, call_41, call_42, call_43, call_44, call_45, call_46, call_47, call_48, call_49, call_50, call_52, call_54, call_56, call_59, call_61, call_63, call_64, call_65, call_66, call_67, call_68, call_69, call_70, clo_33, clo_51, clo_53, clo_55, clo_57, clo_58, clo_60, clo_62, clo_71, ld_2, st_2, ld_3, st_3, ld_4, st_4, beql_4, bneq_4, ld_5, st_5, ld_22, st_22, len_22, ix_22, bsl_22, ld_23, st_23, len_23, ix_23, bsl_23, ld_24, st_24, len_24, ix_24, bsl_24, fa_26_0, fa_26_1, fa_26_2, fa_26_3, fa_26_4, fa_26_5, fa_26_6, fa_26_7, fa_26_8, ld_26, st_26, ld_30, st_30, fa_32_0, fa_32_1, fa_32_2, fa_32_3, ld_32, st_32, bseql_32, bsneq_32, ld_33, st_33, ixa_33, ld_45, st_45, len_45, ix_45, bsl_45, fa_47_0, fa_47_1, fa_47_2, fa_47_3, ld_47, st_47, bseql_47, bsneq_47, ld_48, st_48, ixa_48, ld_56, st_56, ld_57, st_57, len_57, ix_57, bsl_57, ld_70, st_70, ld_75, st_75, al_26, al_32, al_33, al_47, al_70, bu_26_0_1_2_3_4_8, bu_32_0_1_2_3, bu_33_0_1_2_3_4, bs_22_1_0, bs_23_0_, bs_23_1_0, bs_24_0_, bs_24_1_0, bs_45_0_, bs_45_1_0, bs_45_2_0_1, bs_57_1_0, ixv_33_i64_2, ixv_33_i64_4, cv_3_56, cv_5_3]
  refine Wp.bS ((Family_ok g x y).mono fun r hr => ?_)
  obtain ⟨v, S1⟩ := r
  obtain ⟨q, rfl, g1, w1, h1⟩ := hr
  dsimp only at g1 w1 h1 ⊢
  have hq1 := h1.vlt
  have hB := famC_B (clampH x) (clampN y) hh.2 hn
  have gB : Gd W (S1.new (.row (ccs (famC (clampH x) (clampN y)) q) 0)) := g1.new (objLt_mono (Nat.le_succ _) (cvl_obj hq1))
  have hb : (S1.new (.row (ccs (famC (clampH x) (clampN y)) q) 0)).heap S1.c = .row (ccs (famC (clampH x) (clampN y)) q) 0 := new_self _
  have h2 := h1.low (Low.new (Low.rfl' S1) (.row (ccs (famC (clampH x) (clampN y)) q) 0))
  have e1 := Check_eq gB _ q h2
  have e2 := RCheck_eq gB _ q h2
  rw [hck] at e1 e2
  have hN1 := g1.n
  have hL1 := g1.ok.1
  have rf := RFamily_ok gB.relock x y
  have es : sameC (famC (clampH x) (clampN y)) (famC (clampH x) (clampN y)) = true := (sameC_iff _ _).2 rfl
  generalize famC (clampH x) (clampN y) = c at *
  simp -implicitDefEqProofs (maxSteps := 1000000) (disch := (refine id ?_; first | with_reducible assumption | (with_reducible refine IsT.left ?_; with_reducible assumption) | (with_reducible refine IsT.left (IsT.left ?_); with_reducible assumption) | ((first | with_reducible refine nat_lt_id ?_ | with_reducible refine nat_le_id ?_ | with_reducible refine nat_ne_id ?_); (first | (simp +arith only [new_c, new_lock, upd_c, upd_lock, relock_c, relock_lock]; done) | (simp only [new_c, new_lock, upd_c, upd_lock, relock_c, relock_lock]; with_reducible assumption) | (refine Nat.le_trans hN ?_; simp +arith only [new_c, new_lock, upd_c, upd_lock, relock_c, relock_lock]; done) | (refine Nat.le_trans hL ?_; simp +arith only [new_c, new_lock, upd_c, upd_lock, relock_c, relock_lock]; done) | (apply Nat.lt_of_lt_of_le; with_reducible assumption; simp +arith only [new_c, new_lock, upd_c, upd_lock, relock_c, relock_lock]; done) | (apply Nat.ne_of_lt; apply Nat.lt_of_lt_of_le; with_reducible assumption; simp +arith only [new_c, new_lock, upd_c, upd_lock, relock_c, relock_lock]; done) | fail)) | ((fail_if_success (with_reducible apply isT_of)); (fail_if_success (first | with_reducible refine nat_lt_id ?_ | with_reducible refine nat_le_id ?_ | with_reducible refine nat_ne_id ?_)); first | (simp +arith only [new_c, new_lock, upd_c, upd_lock, relock_c, relock_lock]; done) | (refine Nat.le_trans hN ?_; simp +arith only [new_c, new_lock, upd_c, upd_lock, relock_c, relock_lock]; done) | (refine Nat.le_trans hL ?_; simp +arith only [new_c, new_lock, upd_c, upd_lock, relock_c, relock_lock]; done) | omega | (with_reducible apply Gd.cl; with_reducible assumption) | (simp only [new_c, new_lock, upd_c, upd_lock, relock_c, relock_lock] <;> omega) | with_reducible exact Low.rfl' _ | (with_reducible refine Low.new ?_ _; (repeat (first | with_reducible exact Low.rfl' _ | with_reducible assumption | refine Low.new ?_ _ | refine Low.upd ?_ (by (first | omega | (simp only [new_c, upd_c, relock_c] <;> omega))) _)); done) | (with_reducible refine Low.upd ?_ (by (first | omega | (simp only [new_c, upd_c, relock_c] <;> omega))) _; (repeat (first | with_reducible exact Low.rfl' _ | with_reducible assumption | refine Low.new ?_ _ | refine Low.upd ?_ (by (first | omega | (simp only [new_c, upd_c, relock_c] <;> omega))) _)); done) | (with_reducible refine Gd.new ?_ (by (simp only [objLt_row, objLt_dead, List.all_cons, List.all_nil, vlt1_int, vlt1_bool, vlt1_string, vlt1_nilp, vlt1_nils, vlt1_ptr, vlt1_sl, vlt1_func, vlt0_ptr, vlt0_sl, vlt0_int, vlt0_bool, vlt0_string, vlt0_nilp, vlt0_nils, vlt_int, vlt_bool, vlt_string, vlt_nilp, vlt_nils, vlt_ptr, vlt_sl, vlt_agg, vlt_func, List.toArray, Bool.and_true, Bool.true_and, Bool.and_self, Bool.and_eq_true, decide_eq_true_eq, and_true, true_and, new_c, upd_c, relock_c] <;> omega)); (repeat (first | with_reducible assumption | refine Gd.new ?_ (by (simp only [objLt_row, objLt_dead, List.all_cons, List.all_nil, vlt1_int, vlt1_bool, vlt1_string, vlt1_nilp, vlt1_nils, vlt1_ptr, vlt1_sl, vlt1_func, vlt0_ptr, vlt0_sl, vlt0_int, vlt0_bool, vlt0_string, vlt0_nilp, vlt0_nils, vlt_int, vlt_bool, vlt_string, vlt_nilp, vlt_nils, vlt_ptr, vlt_sl, vlt_agg, vlt_func, List.toArray, Bool.and_true, Bool.true_and, Bool.and_self, Bool.and_eq_true, decide_eq_true_eq, and_true, true_and, new_c, upd_c, relock_c] <;> omega)) | refine Gd.upd ?_ (by (first | omega | (simp only [new_c, upd_c, relock_c] <;> omega))) (by (simp only [objLt_row, objLt_dead, List.all_cons, List.all_nil, vlt1_int, vlt1_bool, vlt1_string, vlt1_nilp, vlt1_nils, vlt1_ptr, vlt1_sl, vlt1_func, vlt0_ptr, vlt0_sl, vlt0_int, vlt0_bool, vlt0_string, vlt0_nilp, vlt0_nils, vlt_int, vlt_bool, vlt_string, vlt_nilp, vlt_nils, vlt_ptr, vlt_sl, vlt_agg, vlt_func, List.toArray, Bool.and_true, Bool.true_and, Bool.and_self, Bool.and_eq_true, decide_eq_true_eq, and_true, true_and, new_c, upd_c, relock_c] <;> omega)) | refine Gd.relock ?_)); done) | (with_reducible refine Gd.upd ?_ (by (first | omega | (simp only [new_c, upd_c, relock_c] <;> omega))) (by (simp only [objLt_row, objLt_dead, List.all_cons, List.all_nil, vlt1_int, vlt1_bool, vlt1_string, vlt1_nilp, vlt1_nils, vlt1_ptr, vlt1_sl, vlt1_func, vlt0_ptr, vlt0_sl, vlt0_int, vlt0_bool, vlt0_string, vlt0_nilp, vlt0_nils, vlt_int, vlt_bool, vlt_string, vlt_nilp, vlt_nils, vlt_ptr, vlt_sl, vlt_agg, vlt_func, List.toArray, Bool.and_true, Bool.true_and, Bool.and_self, Bool.and_eq_true, decide_eq_true_eq, and_true, true_and, new_c, upd_c, relock_c] <;> omega)); (repeat (first | with_reducible assumption | refine Gd.new ?_ (by (simp only [objLt_row, objLt_dead, List.all_cons, List.all_nil, vlt1_int, vlt1_bool, vlt1_string, vlt1_nilp, vlt1_nils, vlt1_ptr, vlt1_sl, vlt1_func, vlt0_ptr, vlt0_sl, vlt0_int, vlt0_bool, vlt0_string, vlt0_nilp, vlt0_nils, vlt_int, vlt_bool, vlt_string, vlt_nilp, vlt_nils, vlt_ptr, vlt_sl, vlt_agg, vlt_func, List.toArray, Bool.and_true, Bool.true_and, Bool.and_self, Bool.and_eq_true, decide_eq_true_eq, and_true, true_and, new_c, upd_c, relock_c] <;> omega)) | refine Gd.upd ?_ (by (first | omega | (simp only [new_c, upd_c, relock_c] <;> omega))) (by (simp only [objLt_row, objLt_dead, List.all_cons, List.all_nil, vlt1_int, vlt1_bool, vlt1_string, vlt1_nilp, vlt1_nils, vlt1_ptr, vlt1_sl, vlt1_func, vlt0_ptr, vlt0_sl, vlt0_int, vlt0_bool, vlt0_string, vlt0_nilp, vlt0_nils, vlt_int, vlt_bool, vlt_string, vlt_nilp, vlt_nils, vlt_ptr, vlt_sl, vlt_agg, vlt_func, List.toArray, Bool.and_true, Bool.true_and, Bool.and_self, Bool.and_eq_true, decide_eq_true_eq, and_true, true_and, new_c, upd_c, relock_c] <;> omega)) | refine Gd.relock ?_)); done) | (with_reducible refine Gd.relock2 ?_ ?_; rotate_left; simp only [new_c, upd_c, relock_c]; (repeat (first | with_reducible assumption | refine Gd.new ?_ (by (simp only [objLt_row, objLt_dead, List.all_cons, List.all_nil, vlt1_int, vlt1_bool, vlt1_string, vlt1_nilp, vlt1_nils, vlt1_ptr, vlt1_sl, vlt1_func, vlt0_ptr, vlt0_sl, vlt0_int, vlt0_bool, vlt0_string, vlt0_nilp, vlt0_nils, vlt_int, vlt_bool, vlt_string, vlt_nilp, vlt_nils, vlt_ptr, vlt_sl, vlt_agg, vlt_func, List.toArray, Bool.and_true, Bool.true_and, Bool.and_self, Bool.and_eq_true, decide_eq_true_eq, and_true, true_and, new_c, upd_c, relock_c] <;> omega)) | refine Gd.upd ?_ (by (first | omega | (simp only [new_c, upd_c, relock_c] <;> omega))) (by (simp only [objLt_row, objLt_dead, List.all_cons, List.all_nil, vlt1_int, vlt1_bool, vlt1_string, vlt1_nilp, vlt1_nils, vlt1_ptr, vlt1_sl, vlt1_func, vlt0_ptr, vlt0_sl, vlt0_int, vlt0_bool, vlt0_string, vlt0_nilp, vlt0_nils, vlt_int, vlt_bool, vlt_string, vlt_nilp, vlt_nils, vlt_ptr, vlt_sl, vlt_agg, vlt_func, List.toArray, Bool.and_true, Bool.true_and, Bool.and_self, Bool.and_eq_true, decide_eq_true_eq, and_true, true_and, new_c, upd_c, relock_c] <;> omega)) | refine Gd.relock ?_)); done) | (with_reducible refine nat_eq_id ?_; first | with_reducible rfl | (simp only [new_lock, upd_lock, relock_lock, new_c, upd_c, relock_c]; done)) | (simp (disch := (simp only [new_c, upd_c, relock_c] <;> omega)) only [new_at, new_lo, upd_self, upd_lo, relock_heap]; done) | (with_reducible refine Rd.low (by with_reducible assumption) ?_; (repeat (first | with_reducible exact Low.rfl' _ | with_reducible assumption | refine Low.new ?_ _ | refine Low.upd ?_ (by (first | omega | (simp only [new_c, upd_c, relock_c] <;> omega))) _)); done) | (simp only [flatR_int, flatR_bool, flatR_string, flatR_tuple, flatR_agg, flat_int, flat_bool, flat_string, flat_agg, flat0_int, flat0_bool, flat0_string, List.all_cons, List.all_nil, Bool.and_self, Bool.and_true, Bool.true_and]; done) | ((first | with_reducible refine int_lt_id ?_ | with_reducible refine int_le_id ?_); simp only [IsT, decide_eq_true_eq, Bool.and_eq_true, Bool.or_eq_true, Bool.not_eq_true', decide_eq_false_iff_not] at *; omega) | (simp only [objLt_row, objLt_dead, List.all_cons, List.all_nil, vlt1_int, vlt1_bool, vlt1_string, vlt1_nilp, vlt1_nils, vlt1_ptr, vlt1_sl, vlt1_func, vlt0_ptr, vlt0_sl, vlt0_int, vlt0_bool, vlt0_string, vlt0_nilp, vlt0_nils, vlt_int, vlt_bool, vlt_string, vlt_nilp, vlt_nils, vlt_ptr, vlt_sl, vlt_agg, vlt_func, List.toArray, Bool.and_true, Bool.true_and, Bool.and_self, Bool.and_eq_true, decide_eq_true_eq, and_true, true_and, new_c, upd_c, relock_c]; (try omega); done) | fail))) only [e1, e2, gcR_some, flatR_int, flatR_bool, flatR_string, flatR_tuple, flatR_agg, flat_int, flat_bool, flat_string, flat_agg, flat0_int, flat0_bool, flat0_string, ↓bindV_some, ↓bindS_some, ↓bindT_some, ↓bindO_some, ↓condK_true, ↓condK_false, ↓condB_true, ↓condB_false, ↓gV_tt, ↓gV_tf, ↓gV_ft, ↓gV_ff, ↓gV_undef, wV_true, wV_false, ↓wO_true, ↓wO_false, ↓wS_true, ↓wS_false, ↓wT_true, ↓wT_false, bindV_some, bindS_some, bindT_some, bindO_some, condK_true, condK_false, ↓gV_t, ↓gV_f, gV_wt, gV_wf, wV_wV, wV_and, wrap64, wrapu32, wrapu8, wrapu64, ↓condK_B, wO_true, wO_false, wS_true, wS_false, wT_true, wT_false, wV_pos, wO_val, wS_val, pick_and, pick_or, pick_bool, pick_int, gcR_B, bindO_B, bin_add, bin_sub, bin_mul, bin_lss, bin_leq, bin_gtr, bin_geq, bin_eql, bin_neq, bin_and, bin_or, bin_xor, bin_andNot, un_not, un_neg, un_compl32, pick_true, pick_false, bin_str_eql, bin_str_neq, ex_nth, nil_ptr, nil_func, box_agg, box_int, box_bool, box_string, box_slice, box_pointer, cell_at, cells_at, put_cons, cellOf_row, cellsOf_row, putOf_row, nth_zero, nth_succ, aggOf_some, new_self, pos1, cast0, cast1, eq_self, new_upd, new_at, new_lo, upd_lo, new_c, new_lock, upd_self, upd_c, upd_lock, relock_heap, relock_c, relock_lock, relock_new, bindO_bindS, bindO_bindO, pick_or2, or_false, false_or, or_true, true_or, or_self, relock2, relock_id, storable_func, box_func, bne_ff, bne_tt, bne_tf, bne_ft, beq_tt, beq_ff, qS_true, unlock_some, splice_nil, splice_cons, decide_true, decide_false, beq_self_eq_true, and_self, and_true, true_and, and_false, false_and, if_true, if_false, Bool.not_true, Bool.not_false, Nat.zero_add, Nat.add_zero, List.length_cons, List.length_nil, List.drop_zero, List.drop_succ_cons, List.take_succ_cons, List.take_zero, List.set_cons_zero, List.set_cons_succ, List.all_cons, List.all_nil, storable_int, storable_bool, storable_string, storable_pointer, storable_slice, Bool.and_true, Bool.true_and, Bool.and_self, bff, bft, not_true_eq_false, not_false_eq_true, Nat.reduceAdd, Nat.reduceSub, Nat.reduceMul, Nat.reduceLeDiff, Nat.reduceLT, Nat.reduceEqDiff, Int.reduceLE, Int.reduceLT, Int.reduceAdd, Int.reduceNeg, Int.reduceEq, Int.reduceSub, Int.reduceMul, Int.reduceToNat, Int.toNat_natCast, Int.toNat_zero, Nat.zero_mul, Nat.mul_one, Bool.or_false, Bool.false_or, Bool.false_and, Bool.and_false, Bool.or_true, Bool.true_or, ↓reduceIte, Nat.le_refl, Option.isNone_some, Option.isNone_none, decide_eq_true_eq, Bool.not_eq_true', Bool.and_eq_true, Bool.or_eq_true, decide_eq_false_iff_not, Bool.not_not, reduceCtorEq, call_10, call_11, call_12, call_13, call_14, call_15, call_16, call_17, call_18, call_19, call_20, call_21, call_22, call_23, call_24, call_25, call_26, call_27, call_28, call_29, call_30, call_31, call_32, call_34, call_35, call_36, call_37, call_38, call_39, call_40, call_41, call_42, call_43, call_44, call_45, call_46, call_47, call_48, call_49, call_50, call_52, call_54, call_56, call_59, call_61, call_63, call_64, call_65, call_66, call_67, call_68, call_69, call_70, clo_33, clo_51, clo_53, clo_55, clo_57, clo_58, clo_60, clo_62, clo_71, ld_2, st_2, ld_3, st_3, ld_4, st_4, beql_4, bneq_4, ld_5, st_5, ld_22, st_22, len_22, ix_22, bsl_22, ld_23, st_23, len_23, ix_23, bsl_23, ld_24, st_24, len_24, ix_24, bsl_24, fa_26_0, fa_26_1, fa_26_2, fa_26_3, fa_26_4, fa_26_5, fa_26_6, fa_26_7, fa_26_8, ld_26, st_26, ld_30, st_30, fa_32_0, fa_32_1, fa_32_2, fa_32_3, ld_32, st_32, bseql_32, bsneq_32, ld_33, st_33, ixa_33, ld_45, st_45, len_45, ix_45, bsl_45, fa_47_0, fa_47_1, fa_47_2, fa_47_3, ld_47, st_47, bseql_47, bsneq_47, ld_48, st_48, ixa_48, ld_56, st_56, ld_57, st_57, len_57, ix_57, bsl_57, ld_70, st_70, ld_75, st_75, al_26, al_32, al_33, al_47, al_70, bu_26_0_1_2_3_4_8, bu_32_0_1_2_3, bu_33_0_1_2_3_4, bs_22_1_0, bs_23_0_, bs_23_1_0, bs_24_0_, bs_24_1_0, bs_45_0_, bs_45_1_0, bs_45_2_0_1, bs_57_1_0, ixv_33_i64_2, ixv_33_i64_4, cv_3_56, cv_5_3]
  refine Wp.bSq (rf.mono fun r hr => ?_)
  obtain ⟨v, S2⟩ := r
  obtain ⟨q', rfl, g2, w2, h3⟩ := hr
  dsimp only at g2 w2 h3 ⊢
  have wT : Low (S1.new (.row (ccs c q) 0)) (S2.relock (S1.new (.row (ccs c q) 0)).lock) := w2.relock
  have gT : Gd W (S2.relock (S1.new (.row (ccs c q) 0)).lock) := Gd.back gB g2 (Nat.le_trans gB.ok.1 w2.2.1)
  have e3 : cw W 23 #[cvl c q, cvl c q'] (S2.relock S1.lock) = some (.bool true, S2.relock S1.lock) := by
    have := RSame_eq gT c c q q' (h2.low wT) (h3.relock _)
    rw [es] at this
    exact this
  simp -implicitDefEqProofs (maxSteps := 1000000) (disch := (refine id ?_; first | with_reducible assumption | (with_reducible refine IsT.left ?_; with_reducible assumption) | (with_reducible refine IsT.left (IsT.left ?_); with_reducible assumption) | ((first | with_reducible refine nat_lt_id ?_ | with_reducible refine nat_le_id ?_ | with_reducible refine nat_ne_id ?_); (first | (simp +arith only [new_c, new_lock, upd_c, upd_lock, relock_c, relock_lock]; done) | (simp only [new_c, new_lock, upd_c, upd_lock, relock_c, relock_lock]; with_reducible assumption) | (refine Nat.le_trans hN ?_; simp +arith only [new_c, new_lock, upd_c, upd_lock, relock_c, relock_lock]; done) | (refine Nat.le_trans hL ?_; simp +arith only [new_c, new_lock, upd_c, upd_lock, relock_c, relock_lock]; done) | (apply Nat.lt_of_lt_of_le; with_reducible assumption; simp +arith only [new_c, new_lock, upd_c, upd_lock, relock_c, relock_lock]; done) | (apply Nat.ne_of_lt; apply Nat.lt_of_lt_of_le; with_reducible assumption; simp +arith only [new_c, new_lock, upd_c, upd_lock, relock_c, relock_lock]; done) | fail)) | ((fail_if_success (with_reducible apply isT_of)); (fail_if_success (first | with_reducible refine nat_lt_id ?_ | with_reducible refine nat_le_id ?_ | with_reducible refine nat_ne_id ?_)); first | (simp +arith only [new_c, new_lock, upd_c, upd_lock, relock_c, relock_lock]; done) | (refine Nat.le_trans hN ?_; simp +arith only [new_c, new_lock, upd_c, upd_lock, relock_c, relock_lock]; done) | (refine Nat.le_trans hL ?_; simp +arith only [new_c, new_lock, upd_c, upd_lock, relock_c, relock_lock]; done) | omega | (with_reducible apply Gd.cl; with_reducible assumption) | (simp only [new_c, new_lock, upd_c, upd_lock, relock_c, relock_lock] <;> omega) | with_reducible exact Low.rfl' _ | (with_reducible refine Low.new ?_ _; (repeat (first | with_reducible exact Low.rfl' _ | with_reducible assumption | refine Low.new ?_ _ | refine Low.upd ?_ (by (first | omega | (simp only [new_c, upd_c, relock_c] <;> omega))) _)); done) | (with_reducible refine Low.upd ?_ (by (first | omega | (simp only [new_c, upd_c, relock_c] <;> omega))) _; (repeat (first | with_reducible exact Low.rfl' _ | with_reducible assumption | refine Low.new ?_ _ | refine Low.upd ?_ (by (first | omega | (simp only [new_c, upd_c, relock_c] <;> omega))) _)); done) | (with_reducible refine Gd.new ?_ (by (simp only [objLt_row, objLt_dead, List.all_cons, List.all_nil, vlt1_int, vlt1_bool, vlt1_string, vlt1_nilp, vlt1_nils, vlt1_ptr, vlt1_sl, vlt1_func, vlt0_ptr, vlt0_sl, vlt0_int, vlt0_bool, vlt0_string, vlt0_nilp, vlt0_nils, vlt_int, vlt_bool, vlt_string, vlt_nilp, vlt_nils, vlt_ptr, vlt_sl, vlt_agg, vlt_func, List.toArray, Bool.and_true, Bool.true_and, Bool.and_self, Bool.and_eq_true, decide_eq_true_eq, and_true, true_and, new_c, upd_c, relock_c] <;> omega)); (repeat (first | with_reducible assumption | refine Gd.new ?_ (by (simp only [objLt_row, objLt_dead, List.all_cons, List.all_nil, vlt1_int, vlt1_bool, vlt1_string, vlt1_nilp, vlt1_nils, vlt1_ptr, vlt1_sl, vlt1_func, vlt0_ptr, vlt0_sl, vlt0_int, vlt0_bool, vlt0_string, vlt0_nilp, vlt0_nils, vlt_int, vlt_bool, vlt_string, vlt_nilp, vlt_nils, vlt_ptr, vlt_sl, vlt_agg, vlt_func, List.toArray, Bool.and_true, Bool.true_and, Bool.and_self, Bool.and_eq_true, decide_eq_true_eq, and_true, true_and, new_c, upd_c, relock_c] <;> omega)) | refine Gd.upd ?_ (by (first | omega | (simp only [new_c, upd_c, relock_c] <;> omega))) (by (simp only [objLt_row, objLt_dead, List.all_cons, List.all_nil, vlt1_int, vlt1_bool, vlt1_string, vlt1_nilp, vlt1_nils, vlt1_ptr, vlt1_sl, vlt1_func, vlt0_ptr, vlt0_sl, vlt0_int, vlt0_bool, vlt0_string, vlt0_nilp, vlt0_nils, vlt_int, vlt_bool, vlt_string, vlt_nilp, vlt_nils, vlt_ptr, vlt_sl, vlt_agg, vlt_func, List.toArray, Bool.and_true, Bool.true_and, Bool.and_self, Bool.and_eq_true, decide_eq_true_eq, and_true, true_and, new_c, upd_c, relock_c] <;> omega)) | refine Gd.relock ?_)); done) | (with_reducible refine Gd.upd ?_ (by (first | omega | (simp only [new_c, upd_c, relock_c] <;> omega))) (by (simp only [objLt_row, objLt_dead, List.all_cons, List.all_nil, vlt1_int, vlt1_bool, vlt1_string, vlt1_nilp, vlt1_nils, vlt1_ptr, vlt1_sl, vlt1_func, vlt0_ptr, vlt0_sl, vlt0_int, vlt0_bool, vlt0_string, vlt0_nilp, vlt0_nils, vlt_int, vlt_bool, vlt_string, vlt_nilp, vlt_nils, vlt_ptr, vlt_sl, vlt_agg, vlt_func, List.toArray, Bool.and_true, Bool.true_and, Bool.and_self, Bool.and_eq_true, decide_eq_true_eq, and_true, true_and, new_c, upd_c, relock_c] <;> omega)); (repeat (first | with_reducible assumption | refine Gd.new ?_ (by (simp only [objLt_row, objLt_dead, List.all_cons, List.all_nil, vlt1_int, vlt1_bool, vlt1_string, vlt1_nilp, vlt1_nils, vlt1_ptr, vlt1_sl, vlt1_func, vlt0_ptr, vlt0_sl, vlt0_int, vlt0_bool, vlt0_string, vlt0_nilp, vlt0_nils, vlt_int, vlt_bool, vlt_string, vlt_nilp, vlt_nils, vlt_ptr, vlt_sl, vlt_agg, vlt_func, List.toArray, Bool.and_true, Bool.true_and, Bool.and_self, Bool.and_eq_true, decide_eq_true_eq, and_true, true_and, new_c, upd_c, relock_c] <;> omega)) | refine Gd.upd ?_ (by (first | omega | (simp only [new_c, upd_c, relock_c] <;> omega))) (by (simp only [objLt_row, objLt_dead, List.all_cons, List.all_nil, vlt1_int, vlt1_bool, vlt1_string, vlt1_nilp, vlt1_nils, vlt1_ptr, vlt1_sl, vlt1_func, vlt0_ptr, vlt0_sl, vlt0_int, vlt0_bool, vlt0_string, vlt0_nilp, vlt0_nils, vlt_int, vlt_bool, vlt_string, vlt_nilp, vlt_nils, vlt_ptr, vlt_sl, vlt_agg, vlt_func, List.toArray, Bool.and_true, Bool.true_and, Bool.and_self, Bool.and_eq_true, decide_eq_true_eq, and_true, true_and, new_c, upd_c, relock_c] <;> omega)) | refine Gd.relock ?_)); done) | (with_reducible refine Gd.relock2 ?_ ?_; rotate_left; simp only [new_c, upd_c, relock_c]; (repeat (first | with_reducible assumption | refine Gd.new ?_ (by (simp only [objLt_row, objLt_dead, List.all_cons, List.all_nil, vlt1_int, vlt1_bool, vlt1_string, vlt1_nilp, vlt1_nils, vlt1_ptr, vlt1_sl, vlt1_func, vlt0_ptr, vlt0_sl, vlt0_int, vlt0_bool, vlt0_string, vlt0_nilp, vlt0_nils, vlt_int, vlt_bool, vlt_string, vlt_nilp, vlt_nils, vlt_ptr, vlt_sl, vlt_agg, vlt_func, List.toArray, Bool.and_true, Bool.true_and, Bool.and_self, Bool.and_eq_true, decide_eq_true_eq, and_true, true_and, new_c, upd_c, relock_c] <;> omega)) | refine Gd.upd ?_ (by (first | omega | (simp only [new_c, upd_c, relock_c] <;> omega))) (by (simp only [objLt_row, objLt_dead, List.all_cons, List.all_nil, vlt1_int, vlt1_bool, vlt1_string, vlt1_nilp, vlt1_nils, vlt1_ptr, vlt1_sl, vlt1_func, vlt0_ptr, vlt0_sl, vlt0_int, vlt0_bool, vlt0_string, vlt0_nilp, vlt0_nils, vlt_int, vlt_bool, vlt_string, vlt_nilp, vlt_nils, vlt_ptr, vlt_sl, vlt_agg, vlt_func, List.toArray, Bool.and_true, Bool.true_and, Bool.and_self, Bool.and_eq_true, decide_eq_true_eq, and_true, true_and, new_c, upd_c, relock_c] <;> omega)) | refine Gd.relock ?_)); done) | (with_reducible refine nat_eq_id ?_; first | with_reducible rfl | (simp only [new_lock, upd_lock, relock_lock, new_c, upd_c, relock_c]; done)) | (simp (disch := (simp only [new_c, upd_c, relock_c] <;> omega)) only [new_at, new_lo, upd_self, upd_lo, relock_heap]; done) | (with_reducible refine Rd.low (by with_reducible assumption) ?_; (repeat (first | with_reducible exact Low.rfl' _ | with_reducible assumption | refine Low.new ?_ _ | refine Low.upd ?_ (by (first | omega | (simp only [new_c, upd_c, relock_c] <;> omega))) _)); done) | (simp only [flatR_int, flatR_bool, flatR_string, flatR_tuple, flatR_agg, flat_int, flat_bool, flat_string, flat_agg, flat0_int, flat0_bool, flat0_string, List.all_cons, List.all_nil, Bool.and_self, Bool.and_true, Bool.true_and]; done) | ((first | with_reducible refine int_lt_id ?_ | with_reducible refine int_le_id ?_); simp only [IsT, decide_eq_true_eq, Bool.and_eq_true, Bool.or_eq_true, Bool.not_eq_true', decide_eq_false_iff_not] at *; omega) | (simp only [objLt_row, objLt_dead, List.all_cons, List.all_nil, vlt1_int, vlt1_bool, vlt1_string, vlt1_nilp, vlt1_nils, vlt1_ptr, vlt1_sl, vlt1_func, vlt0_ptr, vlt0_sl, vlt0_int, vlt0_bool, vlt0_string, vlt0_nilp, vlt0_nils, vlt_int, vlt_bool, vlt_string, vlt_nilp, vlt_nils, vlt_ptr, vlt_sl, vlt_agg, vlt_func, List.toArray, Bool.and_true, Bool.true_and, Bool.and_self, Bool.and_eq_true, decide_eq_true_eq, and_true, true_and, new_c, upd_c, relock_c]; (try omega); done) | fail))) only [e3, gcR_some, flatR_int, flatR_bool, flatR_string, flatR_tuple, flatR_agg, flat_int, flat_bool, flat_string, flat_agg, flat0_int, flat0_bool, flat0_string, ↓bindV_some, ↓bindS_some, ↓bindT_some, ↓bindO_some, ↓condK_true, ↓condK_false, ↓condB_true, ↓condB_false, ↓gV_tt, ↓gV_tf, ↓gV_ft, ↓gV_ff, ↓gV_undef, wV_true, wV_false, ↓wO_true, ↓wO_false, ↓wS_true, ↓wS_false, ↓wT_true, ↓wT_false, bindV_some, bindS_some, bindT_some, bindO_some, condK_true, condK_false, ↓gV_t, ↓gV_f, gV_wt, gV_wf, wV_wV, wV_and, wrap64, wrapu32, wrapu8, wrapu64, ↓condK_B, wO_true, wO_false, wS_true, wS_false, wT_true, wT_false, wV_pos, wO_val, wS_val, pick_and, pick_or, pick_bool, pick_int, gcR_B, bindO_B, bin_add, bin_sub, bin_mul, bin_lss, bin_leq, bin_gtr, bin_geq, bin_eql, bin_neq, bin_and, bin_or, bin_xor, bin_andNot, un_not, un_neg, un_compl32, pick_true, pick_false, bin_str_eql, bin_str_neq, ex_nth, nil_ptr, nil_func, box_agg, box_int, box_bool, box_string, box_slice, box_pointer, cell_at, cells_at, put_cons, cellOf_row, cellsOf_row, putOf_row, nth_zero, nth_succ, aggOf_some, new_self, pos1, cast0, cast1, eq_self, new_upd, new_at, new_lo, upd_lo, new_c, new_lock, upd_self, upd_c, upd_lock, relock_heap, relock_c, relock_lock, relock_new, bindO_bindS, bindO_bindO, pick_or2, or_false, false_or, or_true, true_or, or_self, relock2, relock_id, storable_func, box_func, bne_ff, bne_tt, bne_tf, bne_ft, beq_tt, beq_ff, qS_true, unlock_some, splice_nil, splice_cons, decide_true, decide_false, beq_self_eq_true, and_self, and_true, true_and, and_false, false_and, if_true, if_false, Bool.not_true, Bool.not_false, Nat.zero_add, Nat.add_zero, List.length_cons, List.length_nil, List.drop_zero, List.drop_succ_cons, List.take_succ_cons, List.take_zero, List.set_cons_zero, List.set_cons_succ, List.all_cons, List.all_nil, storable_int, storable_bool, storable_string, storable_pointer, storable_slice, Bool.and_true, Bool.true_and, Bool.and_self, bff, bft, not_true_eq_false, not_false_eq_true, Nat.reduceAdd, Nat.reduceSub, Nat.reduceMul, Nat.reduceLeDiff, Nat.reduceLT, Nat.reduceEqDiff, Int.reduceLE, Int.reduceLT, Int.reduceAdd, Int.reduceNeg, Int.reduceEq, Int.reduceSub, Int.reduceMul, Int.reduceToNat, Int.toNat_natCast, Int.toNat_zero, Nat.zero_mul, Nat.mul_one, Bool.or_false, Bool.false_or, Bool.false_and, Bool.and_false, Bool.or_true, Bool.true_or, ↓reduceIte, Nat.le_refl, Option.isNone_some, Option.isNone_none, decide_eq_true_eq, Bool.not_eq_true', Bool.and_eq_true, Bool.or_eq_true, decide_eq_false_iff_not, Bool.not_not, reduceCtorEq, call_10, call_11, call_12, call_13, call_14, call_15, call_16, call_17, call_18, call_19, call_20, call_21, call_22, call_23, call_24, call_25, call_26, call_27, call_28, call_29, call_30, call_31, call_32, call_34, call_35, call_36, call_37, call_38, call_39, call_40, call_41, call_42, call_43, call_44, call_45, call_46, call_47, call_48, call_49, call_50, call_52, call_54, call_56, call_59, call_61, call_63, call_64, call_65, call_66, call_67, call_68, call_69, call_70, clo_33, clo_51, clo_53, clo_55, clo_57, clo_58, clo_60, clo_62, clo_71, ld_2, st_2, ld_3, st_3, ld_4, st_4, beql_4, bneq_4, ld_5, st_5, ld_22, st_22, len_22, ix_22, bsl_22, ld_23, st_23, len_23, ix_23, bsl_23, ld_24, st_24, len_24, ix_24, bsl_24, fa_26_0, fa_26_1, fa_26_2, fa_26_3, fa_26_4, fa_26_5, fa_26_6, fa_26_7, fa_26_8, ld_26, st_26, ld_30, st_30, fa_32_0, fa_32_1, fa_32_2, fa_32_3, ld_32, st_32, bseql_32, bsneq_32, ld_33, st_33, ixa_33, ld_45, st_45, len_45, ix_45, bsl_45, fa_47_0, fa_47_1, fa_47_2, fa_47_3, ld_47, st_47, bseql_47, bsneq_47, ld_48, st_48, ixa_48, ld_56, st_56, ld_57, st_57, len_57, ix_57, bsl_57, ld_70, st_70, ld_75, st_75, al_26, al_32, al_33, al_47, al_70, bu_26_0_1_2_3_4_8, bu_32_0_1_2_3, bu_33_0_1_2_3_4, bs_22_1_0, bs_23_0_, bs_23_1_0, bs_24_0_, bs_24_1_0, bs_45_0_, bs_45_1_0, bs_45_2_0_1, bs_57_1_0, ixv_33_i64_2, ixv_33_i64_4, cv_3_56, cv_5_3]
  exact ⟨_, rfl, rfl⟩
end
end Go.Proofs.Ytogcdgdnjinjkaa.F
end
