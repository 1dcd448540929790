/- What the functions of this chapter compute, in memories that are closed; conditions stand in each theorem. Laid together by a program for this claim. -/
import Derived.Test.YtogcdgdnjinjkaaQWalkA2
set_option linter.unusedVariables false
set_option linter.unusedSimpArgs false
section
namespace Go.Proofs.Ytogcdgdnjinjkaa.F
open Go Go.Proofs.Ytogcdgdnjinjkaa.E
set_option linter.unusedVariables false
set_option linter.unusedSimpArgs false
section
variable {W : World}
abbrev ycs (c : Cfg) (vd ve vl : Value) : List Value := [.int .i64 c.hosts, .int .i64 c.cycle, .int .i64 c.delay, .int .i64 c.window, .int .i64 c.prec, vd, ve, vl, .int .i64 c.queue]
def OutAt (W : World) (lo : Nat) (S : St) (c : Cfg) (q : Pl) : Prop :=
  ∃ svs : List Sv, Rd VT W S (.slice q.ad c.delays.length q.cd) svs ∧ svs.map (·.l) = c.delays ∧ (∀ s ∈ svs, Rd IT W S (.slice s.a s.n s.c) s.l) ∧ Rd NT W S (.slice q.ae c.entries.length q.ce) c.entries ∧ Rd KT W S (.slice q.al c.links.length q.cl) c.links ∧
    (∀ i, i ∈ blkOf (.slice q.ad c.delays.length q.cd) → lo ≤ i) ∧ (∀ s ∈ svs, ∀ i, i ∈ blkOf (.slice s.a s.n s.c) → lo ≤ i) ∧ (∀ i, i ∈ blkOf (.slice q.ae c.entries.length q.ce) → lo ≤ i) ∧ (∀ i, i ∈ blkOf (.slice q.al c.links.length q.cl) → lo ≤ i)
set_option maxRecDepth 100000 in
set_option maxHeartbeats 1000000 in
theorem ylinks_loop (S0 : St) (hN0 : W.heap.size ≤ S0.c) (hL0 : S0.lock ≤ S0.c) (c : Cfg) (q : Pl) (hB : CfgB c) (h0 : CfgAt W S0 c q) {b1 b2 b3 : Nat} (p1 : S0.c ≤ b1) (p2 : S0.c ≤ b2) (p3 : S0.c ≤ b3) (h12 : b1 ≠ b2) (h13 : b1 ≠ b3) (h23 : b2 ≠ b3) {vd : Value} (svs : List Sv) (hsv : svs.map (·.l) = c.delays) (hvf : ∃ a k, vd = .slice a c.delays.length k) (nd : (∀ i, i ∈ blkOf vd → i ≠ b1 ∧ i ≠ b2 ∧ i ≠ b3 ∧ S0.c ≤ i)) (n3 : ∀ s ∈ svs, ∀ i, i ∈ blkOf (.slice s.a s.n s.c) → i ≠ b1 ∧ i ≠ b2 ∧ i ≠ b3 ∧ S0.c ≤ i) {ve : Value} (hef : ∃ a k, ve = .slice a c.entries.length k) (neB : (∀ i, i ∈ blkOf ve → i ≠ b1 ∧ i ≠ b2 ∧ i ≠ b3 ∧ S0.c ≤ i)) (m : Nat) : ∀ (j : Nat) (hmj : m + j = c.links.length) (S : St) (g : Gd W S) (w : Low S0 S) (rd : Rd VT W S vd svs) (h3 : ∀ s ∈ svs, Rd IT W S (.slice s.a s.n s.c) s.l) (re : Rd NT W S ve c.entries) (vl : Value) (sl : Sl KT S vl (c.links.take j)) (nv : (∀ i, i ∈ blkOf vl → i ≠ b1 ∧ i ≠ b2 ∧ i ≠ b3 ∧ S0.c ≤ i)) (ndv : ∀ i, i ∈ blkOf vd → i ∉ blkOf vl) (n3v : ∀ s ∈ svs, ∀ i, i ∈ blkOf (.slice s.a s.n s.c) → i ∉ blkOf vl) (nev : ∀ i, i ∈ blkOf ve → i ∉ blkOf vl) (hbx : S.heap b3 = (.row (ycs c vd ve vl) 0)) (hb1 : S.heap b1 = .row (ccs c q) 0) (hb2 : S.heap b2 = (.row [.int .i64 0, .int .i64 0, .int .i64 0, .int .i64 0, .int .i64 0, .slice none 0 0, .slice none 0 0, .slice none 0 0, .int .i64 0] 0)) (y0 y4 y5 y6 y7 y9 y10 y11 y12 y13 y14 y15 y16 y17 y18 y19 y20 y21 y22 y23 y24 y25 y26 y27 y28 y29 y30 y31 y32 y33 y34 y35 y36 y37 y38 y39 y40 y41 y42 y43 y44 y45 y46 y47 y48 y49 y50 y51 y52 y53 y54 y55 y56 y57 y58 y59 y60 y61 y62 y63 y81 : Value),
    Wp (bindO (l27_11111010 W y0 (.pointer (some ⟨b1, 0, none⟩)) (.pointer (some ⟨b2, 0, none⟩)) (.pointer (some ⟨b3, 0, none⟩)) y4 y5 y6 y7 (.int .i64 (j : Int)) y9 y10 y11 y12 y13 y14 y15 y16 y17 y18 y19 y20 y21 y22 y23 y24 y25 y26 y27 y28 y29 y30 y31 y32 y33 y34 y35 y36 y37 y38 y39 y40 y41 y42 y43 y44 y45 y46 y47 y48 y49 y50 y51 y52 y53 y54 y55 y56 y57 y58 y59 y60 y61 y62 y63 y81 S) (kc W c27 [1, 1, 1, 1, 1, 0, 1, 0] f27)) (fun r => ∃ q', r.1 = cvl c q' ∧ Gd W r.2 ∧ Low S0 r.2 ∧ OutAt W S0.c r.2 c q') := by
  have hW1 : W.heap.size ≤ b1 := Nat.le_trans hN0 p1
  have hW2 : W.heap.size ≤ b2 := Nat.le_trans hN0 p2
  have hW3 : W.heap.size ≤ b3 := Nat.le_trans hN0 p3
  have hBl := hB.ll
  induction m with
  | zero =>
    intro j hmj S g w rd h3 re vl sl nv ndv n3v nev hbx hb1 hb2 y0 y4 y5 y6 y7 y9 y10 y11 y12 y13 y14 y15 y16 y17 y18 y19 y20 y21 y22 y23 y24 y25 y26 y27 y28 y29 y30 y31 y32 y33 y34 y35 y36 y37 y38 y39 y40 y41 y42 y43 y44 y45 y46 y47 y48 y49 y50 y51 y52 y53 y54 y55 y56 y57 y58 y59 y60 y61 y62 y63 y81
    have q1 := row_lt g.ok hb1
    have q2 := row_lt g.ok hb2
    have q3 := row_lt g.ok hbx
    have hL2 : S.lock ≤ b2 := by rw [w.1]; exact Nat.le_trans hL0 p2
    have hx : ¬ ((j : Int) < (c.links.length : Int)) := by omega
    have hb1' := hb1
    have hN := g.n; have hL : S.lock ≤ S.c := g.ok.1
    rw [r27_11111010]
    have hub := rd.1
    have hue := re.1
    have huk := (sl.rd g).1
    have rk := sl.rd g
    obtain ⟨ad, cd, rfl⟩ := hvf
    obtain ⟨ae, ce, rfl⟩ := hef
    obtain ⟨al, cl, rfl⟩ := sl.form
    have hob : objLt S.c (.row (ycs c (.slice ad c.delays.length cd) (.slice ae c.entries.length ce) (.slice al (c.links.take j).length cl)) 0) = true := by
      simp only [objLt_row, List.all_cons, List.all_nil, vlt1_int, hub, hue, huk, Bool.and_self]
    have x : Ext [b2] S (S.upd b2 (.row (ycs c (.slice ad c.delays.length cd) (.slice ae c.entries.length ce) (.slice al (c.links.take j).length cl)) 0)) := Ext.upd g.ok q2 hob
    simp -implicitDefEqProofs (maxSteps := 1000000) (disch := (refine id ?_; first | with_reducible assumption | ((first | with_reducible refine nat_le_id ?_ | with_reducible refine nat_ne_id ?_); (first | (simp +arith only [new_c, new_lock, upd_c, upd_lock, relock_c, relock_lock]; done) | fail)) | ((fail_if_success (with_reducible apply isT_of)); (fail_if_success (first | with_reducible refine nat_le_id ?_ | with_reducible refine nat_ne_id ?_)); first | (simp +arith only [new_c, new_lock, upd_c, upd_lock, relock_c, relock_lock]; done) | omega | fail))) only [hx, hb1', hbx, hb2, k27_11111010_6, ↓bindV_some, ↓bindS_some, ↓bindT_some, ↓bindO_some, ↓condB_true, ↓condB_false, bindV_some, bindS_some, bindT_some, bindO_some, wrap64, ↓condK_B, bin_add, bin_lss, cell_at, cells_at, put_cons, cellOf_row, cellsOf_row, putOf_row, nth_zero, nth_succ, aggOf_some, eq_self, new_c, upd_self, relock_c, relock_new, bindO_bindS, qS_true, unlock_some, splice_nil, splice_cons, decide_true, decide_false, and_self, Nat.zero_add, List.length_cons, List.length_nil, List.drop_zero, List.take_succ_cons, List.take_zero, List.set_cons_zero, List.set_cons_succ, List.all_cons, List.all_nil, storable_int, storable_slice, Bool.and_self, Nat.reduceAdd, Nat.reduceSub, Nat.reduceMul, Nat.reduceLeDiff, Nat.reduceLT, Nat.reduceEqDiff, Int.reduceLE, Int.reduceLT, Int.reduceAdd, Int.reduceNeg, Int.reduceEq, Int.reduceSub, Int.reduceMul, Int.reduceToNat, Int.toNat_natCast, ↓reduceIte, Nat.le_refl, reduceCtorEq, ld_24, st_24, len_24, ix_24, fa_26_7, ld_26, st_26, ld_47, bs_24_1_0]
    have etk : c.links.take j = c.links := List.take_of_length_le (by omega)
    rw [etk] at x rk ⊢
    refine ⟨_, rfl, ⟨ad, cd, ae, ce, al, cl⟩, rfl, x.good g, Low.ext w x (fun i hi => by rw [List.mem_singleton] at hi; omega), ?_⟩
    refine ⟨svs, rd.ext x (fun i hi => by rw [List.mem_singleton]; exact (nd i hi).2.1), hsv, fun s hs => (h3 s hs).ext x (fun i hi => by rw [List.mem_singleton]; exact (n3 s hs i hi).2.1), re.ext x (fun i hi => by rw [List.mem_singleton]; exact (neB i hi).2.1), rk.ext x (fun i hi => by rw [List.mem_singleton]; rw [etk] at nv; exact (nv i hi).2.1), fun i hi => (nd i hi).2.2.2, fun s hs i hi => (n3 s hs i hi).2.2.2, fun i hi => (neB i hi).2.2.2, fun i hi => by rw [etk] at nv; exact (nv i hi).2.2.2⟩
  | succ m ih =>
    intro j hmj S g w rd h3 re vl sl nv ndv n3v nev hbx hb1 hb2 y0 y4 y5 y6 y7 y9 y10 y11 y12 y13 y14 y15 y16 y17 y18 y19 y20 y21 y22 y23 y24 y25 y26 y27 y28 y29 y30 y31 y32 y33 y34 y35 y36 y37 y38 y39 y40 y41 y42 y43 y44 y45 y46 y47 y48 y49 y50 y51 y52 y53 y54 y55 y56 y57 y58 y59 y60 y61 y62 y63 y81
    have q1 := row_lt g.ok hb1
    have q2 := row_lt g.ok hb2
    have q3 := row_lt g.ok hbx
    have hL3 : S.lock ≤ b3 := by rw [w.1]; exact Nat.le_trans hL0 p3
    have hjl : j < c.links.length := by omega
    have hx : (j : Int) < (c.links.length : Int) := by omega
    have e2 : IntKind.i64.wrap ((j : Int) + 1) = ((j + 1 : Nat) : Int) := by rw [wrap64 (by omega) (by omega)]; omega
    have ih := ih (j + 1) (by omega)
    have hS := h0.low w
    obtain ⟨b, o, cp, e, hbS, hr⟩ := hS.lnk.at (by omega)
    have eA : q.al = some ⟨b, o, none⟩ := by injection e
    have e5 := (hr j hjl).1
    rw [show KT.k = 4 from rfl, show KT.cs c.links[j] = [.int .i64 c.links[j].f, .int .u32 (c.links[j].t : Int), .int .i64 c.links[j].gap, .int .i64 c.links[j].sz] from rfl] at e5
    rw [take_succ' c.links j hjl] at ih
    have hlen : (c.links.take j).length = j := by rw [List.length_take]; omega
    clear hr e
    generalize c.links[j] = x at *
    have hk0 := sl
    have hdf := hvf
    obtain ⟨al, cl, rfl⟩ := sl.form
    have hN := g.n; have hL : S.lock ≤ S.c := g.ok.1
    rw [r27_11111010]
    simp -implicitDefEqProofs (maxSteps := 1000000) (disch := (refine id ?_; first | with_reducible assumption | ((first | with_reducible refine nat_le_id ?_ | with_reducible refine nat_ne_id ?_); (first | (simp +arith only [new_c, new_lock, upd_c, upd_lock, relock_c, relock_lock]; done) | fail)) | ((fail_if_success (with_reducible apply isT_of)); (fail_if_success (first | with_reducible refine nat_le_id ?_ | with_reducible refine nat_ne_id ?_)); first | (simp +arith only [new_c, new_lock, upd_c, upd_lock, relock_c, relock_lock]; done) | omega | fail))) only [hx, hbx, hb1, e2, e5, eA, ↓bindV_some, ↓bindS_some, ↓bindT_some, ↓bindO_some, ↓condB_true, ↓condB_false, bindV_some, bindS_some, bindT_some, bindO_some, wrap64, ↓condK_B, bin_add, bin_lss, cell_at, cells_at, put_cons, cellOf_row, cellsOf_row, putOf_row, nth_zero, nth_succ, aggOf_some, eq_self, new_c, upd_self, relock_c, relock_new, bindO_bindS, qS_true, unlock_some, splice_nil, splice_cons, decide_true, decide_false, and_self, Nat.zero_add, List.length_cons, List.length_nil, List.drop_zero, List.take_succ_cons, List.take_zero, List.set_cons_zero, List.set_cons_succ, List.all_cons, List.all_nil, storable_int, storable_slice, Bool.and_self, Nat.reduceAdd, Nat.reduceSub, Nat.reduceMul, Nat.reduceLeDiff, Nat.reduceLT, Nat.reduceEqDiff, Int.reduceLE, Int.reduceLT, Int.reduceAdd, Int.reduceNeg, Int.reduceEq, Int.reduceSub, Int.reduceMul, Int.reduceToNat, Int.toNat_natCast, ↓reduceIte, Nat.le_refl, reduceCtorEq, ld_24, st_24, len_24, ix_24, fa_26_7, ld_26, st_26, ld_47, bs_24_1_0]
    have g1 : Gd W (S.new (.row (KT.fl [x]) 0)) := g.new rfl
    refine Wp.grow (T := KT) (new := [x]) g1 elc24 (hk0.new g.ok rfl) (src_made Try.underlying24 (sz := 4) (n := 1) g (l := KT.fl [x]) rfl (by decide) 0) rfl (by rw [hlen]; simp only [List.length_cons, List.length_nil]; omega) fun v' S' g' sl' x2 fr' => ?_
    have x0 := Ext.pre g.ok (rfl : objLt (S.c + 1) (.row (KT.fl [x]) 0) = true) x2
    have hk1 := sl'
    have hv' := (sl'.rd g').1
    obtain ⟨a', c', rfl⟩ := sl'.form
    have q1' : b1 < S'.c := Nat.lt_of_lt_of_le q1 x0.c
    have q2' : b2 < S'.c := Nat.lt_of_lt_of_le q2 x0.c
    have q3' : b3 < S'.c := Nat.lt_of_lt_of_le q3 x0.c
    have hbx' : S'.heap b3 = _ := (x0.same b3 q3 (fun hh => (nv b3 hh).2.2.1 rfl)).trans hbx
    have hb1' : S'.heap b1 = _ := (x0.same b1 q1 (fun hh => (nv b1 hh).1 rfl)).trans hb1
    have hb2' : S'.heap b2 = _ := (x0.same b2 q2 (fun hh => (nv b2 hh).2.1 rfl)).trans hb2
    have hL' : S'.lock ≤ b3 := by rw [x0.lock]; exact hL3
    have hd' := vlt1_mono x0.c rd.1
    have hee := vlt1_mono x0.c re.1
    simp -implicitDefEqProofs (maxSteps := 1000000) (disch := (refine id ?_; first | with_reducible assumption | ((first | with_reducible refine nat_le_id ?_ | with_reducible refine nat_ne_id ?_); (first | (simp +arith only [new_c, new_lock, upd_c, upd_lock, relock_c, relock_lock]; done) | fail)) | ((fail_if_success (with_reducible apply isT_of)); (fail_if_success (first | with_reducible refine nat_le_id ?_ | with_reducible refine nat_ne_id ?_)); first | (simp +arith only [new_c, new_lock, upd_c, upd_lock, relock_c, relock_lock]; done) | omega | fail))) only [hbx', ↓bindV_some, ↓bindS_some, ↓bindT_some, ↓bindO_some, ↓condB_true, ↓condB_false, bindV_some, bindS_some, bindT_some, bindO_some, wrap64, ↓condK_B, bin_add, bin_lss, cell_at, cells_at, put_cons, cellOf_row, cellsOf_row, putOf_row, nth_zero, nth_succ, aggOf_some, eq_self, new_c, upd_self, relock_c, relock_new, bindO_bindS, qS_true, unlock_some, splice_nil, splice_cons, decide_true, decide_false, and_self, Nat.zero_add, List.length_cons, List.length_nil, List.drop_zero, List.take_succ_cons, List.take_zero, List.set_cons_zero, List.set_cons_succ, List.all_cons, List.all_nil, storable_int, storable_slice, Bool.and_self, Nat.reduceAdd, Nat.reduceSub, Nat.reduceMul, Nat.reduceLeDiff, Nat.reduceLT, Nat.reduceEqDiff, Int.reduceLE, Int.reduceLT, Int.reduceAdd, Int.reduceNeg, Int.reduceEq, Int.reduceSub, Int.reduceMul, Int.reduceToNat, Int.toNat_natCast, ↓reduceIte, Nat.le_refl, reduceCtorEq, ld_24, st_24, len_24, ix_24, fa_26_7, ld_26, st_26, ld_47, bs_24_1_0]
    have hob : objLt S'.c (.row (ycs c vd ve (.slice a' (c.links.take j ++ [x]).length c')) 0) = true := by
      simp only [objLt_row, List.all_cons, List.all_nil, vlt1_int, hd', hee, hv', Bool.and_self]
    have x3 : Ext [b3] S' _ := Ext.upd g'.ok q3' hob
    have fr2 : ∀ i, i ∈ blkOf (.slice a' (c.links.take j ++ [x]).length c') → i ≠ b1 ∧ i ≠ b2 ∧ i ≠ b3 ∧ S.c ≤ i := fun i hi => by
      have := fr' i hi
      rw [new_c] at this
      exact ⟨by omega, by omega, by omega, by omega⟩
    refine ih _ (x3.good g') (Low.ext (Low.ext w x0 (fun i hi => (nv i hi).2.2.2)) x3 (fun i hi => by rw [List.mem_singleton] at hi; omega)) ((rd.ext x0 ndv).ext x3 fun i hi => by rw [List.mem_singleton]; exact (nd i hi).2.2.1) (fun s hs => ((h3 s hs).ext x0 (n3v s hs)).ext x3 fun i hi => by rw [List.mem_singleton]; exact (n3 s hs i hi).2.2.1) ((re.ext x0 nev).ext x3 fun i hi => by rw [List.mem_singleton]; exact (neB i hi).2.2.1) _ (hk1.keep x3 (fun i hi => by rw [List.mem_singleton]; exact (fr2 i hi).2.2.1) g'.ok) (fun i hi => ⟨(fr2 i hi).1, (fr2 i hi).2.1, (fr2 i hi).2.2.1, by have := (fr2 i hi).2.2.2; have := w.2.1; omega⟩) (fun i hi h' => by have := rd.lt i hi; have := (fr2 i h').2.2.2; omega) (fun s hs i hi h' => by have := (h3 s hs).lt i hi; have := (fr2 i h').2.2.2; omega) (fun i hi h' => by have := re.lt i hi; have := (fr2 i h').2.2.2; omega) (upd_self _ _) ((upd_ne _ h13).trans hb1') ((upd_ne _ h23).trans hb2') _ _ _ _ _ _ _ _ _ _ _ _ _ _ _ _ _ _ _ _ _ _ _ _ _ _ _ _ _ _ _ _ _ _ _ _ _ _ _ _ _ _ _ _ _ _ _ _ _ _ _ _ _ _ _ _ _ _ _ _ _
set_option maxRecDepth 100000 in
set_option maxHeartbeats 1000000 in
theorem yentries_loop (S0 : St) (hN0 : W.heap.size ≤ S0.c) (hL0 : S0.lock ≤ S0.c) (c : Cfg) (q : Pl) (hB : CfgB c) (h0 : CfgAt W S0 c q) {b1 b2 b3 : Nat} (p1 : S0.c ≤ b1) (p2 : S0.c ≤ b2) (p3 : S0.c ≤ b3) (h12 : b1 ≠ b2) (h13 : b1 ≠ b3) (h23 : b2 ≠ b3) {vd : Value} (svs : List Sv) (hsv : svs.map (·.l) = c.delays) (hvf : ∃ a k, vd = .slice a c.delays.length k) (nd : (∀ i, i ∈ blkOf vd → i ≠ b1 ∧ i ≠ b2 ∧ i ≠ b3 ∧ S0.c ≤ i)) (n3 : ∀ s ∈ svs, ∀ i, i ∈ blkOf (.slice s.a s.n s.c) → i ≠ b1 ∧ i ≠ b2 ∧ i ≠ b3 ∧ S0.c ≤ i)  (m : Nat) : ∀ (j : Nat) (hmj : m + j = c.entries.length) (S : St) (g : Gd W S) (w : Low S0 S) (rd : Rd VT W S vd svs) (h3 : ∀ s ∈ svs, Rd IT W S (.slice s.a s.n s.c) s.l)  (vl : Value) (sl : Sl NT S vl (c.entries.take j)) (nv : (∀ i, i ∈ blkOf vl → i ≠ b1 ∧ i ≠ b2 ∧ i ≠ b3 ∧ S0.c ≤ i)) (ndv : ∀ i, i ∈ blkOf vd → i ∉ blkOf vl) (n3v : ∀ s ∈ svs, ∀ i, i ∈ blkOf (.slice s.a s.n s.c) → i ∉ blkOf vl) (hbx : S.heap b3 = (.row (ycs c vd vl (.slice none 0 0)) 0)) (hb1 : S.heap b1 = .row (ccs c q) 0) (hb2 : S.heap b2 = (.row [.int .i64 0, .int .i64 0, .int .i64 0, .int .i64 0, .int .i64 0, .slice none 0 0, .slice none 0 0, .slice none 0 0, .int .i64 0] 0)) (y0 y4 y5 y6 y8 y9 y10 y11 y12 y13 y14 y15 y16 y17 y18 y19 y20 y21 y22 y23 y24 y25 y26 y27 y28 y29 y30 y31 y32 y33 y34 y35 y36 y37 y38 y39 y40 y41 y42 y43 y44 y45 y46 y64 y65 y66 y67 y68 y69 y70 y71 y72 y73 y74 y75 y76 y77 y78 y79 y80 y81 : Value),
    Wp (bindO (l27_1111010 W y0 (.pointer (some ⟨b1, 0, none⟩)) (.pointer (some ⟨b2, 0, none⟩)) (.pointer (some ⟨b3, 0, none⟩)) y4 y5 y6 (.int .i64 (j : Int)) y8 y9 y10 y11 y12 y13 y14 y15 y16 y17 y18 y19 y20 y21 y22 y23 y24 y25 y26 y27 y28 y29 y30 y31 y32 y33 y34 y35 y36 y37 y38 y39 y40 y41 y42 y43 y44 y45 y46 y64 y65 y66 y67 y68 y69 y70 y71 y72 y73 y74 y75 y76 y77 y78 y79 y80 y81 S) (kc W c27 [1, 1, 1, 1, 0, 1, 0] f27)) (fun r => ∃ q', r.1 = cvl c q' ∧ Gd W r.2 ∧ Low S0 r.2 ∧ OutAt W S0.c r.2 c q') := by
  have hW1 : W.heap.size ≤ b1 := Nat.le_trans hN0 p1
  have hW2 : W.heap.size ≤ b2 := Nat.le_trans hN0 p2
  have hW3 : W.heap.size ≤ b3 := Nat.le_trans hN0 p3
  have hBl := hB.le
  induction m with
  | zero =>
    intro j hmj S g w rd h3  vl sl nv ndv n3v hbx hb1 hb2 y0 y4 y5 y6 y8 y9 y10 y11 y12 y13 y14 y15 y16 y17 y18 y19 y20 y21 y22 y23 y24 y25 y26 y27 y28 y29 y30 y31 y32 y33 y34 y35 y36 y37 y38 y39 y40 y41 y42 y43 y44 y45 y46 y64 y65 y66 y67 y68 y69 y70 y71 y72 y73 y74 y75 y76 y77 y78 y79 y80 y81
    have q1 := row_lt g.ok hb1
    have q2 := row_lt g.ok hb2
    have q3 := row_lt g.ok hbx
    have hL2 : S.lock ≤ b2 := by rw [w.1]; exact Nat.le_trans hL0 p2
    have hx : ¬ ((j : Int) < (c.entries.length : Int)) := by omega
    have hb1' := hb1
    have hN := g.n; have hL : S.lock ≤ S.c := g.ok.1
    rw [r27_1111010]
    have etk : c.entries.take j = c.entries := List.take_of_length_le (by omega)
    rw [etk] at sl
    have lp := fun y0 y4 y5 y6 y7 y9 y10 y11 y12 y13 y14 y15 y16 y17 y18 y19 y20 y21 y22 y23 y24 y25 y26 y27 y28 y29 y30 y31 y32 y33 y34 y35 y36 y37 y38 y39 y40 y41 y42 y43 y44 y45 y46 y47 y48 y49 y50 y51 y52 y53 y54 y55 y56 y57 y58 y59 y60 y61 y62 y63 y81 => ylinks_loop S0 hN0 hL0 c q hB h0 p1 p2 p3 h12 h13 h23 svs hsv hvf nd n3 (by obtain ⟨a, k, e⟩ := sl.form; exact ⟨a, k, e⟩) nv c.links.length 0 rfl S g w rd h3 (sl.rd g) (.slice none 0 0) (by rw [List.take_zero]; exact sl_nil) (fun i hi => by cases hi) (fun i hi h' => by cases h') (fun s hs i hi h' => by cases h') (fun i hi h' => by cases h') hbx hb1 hb2 y0 y4 y5 y6 y7 y9 y10 y11 y12 y13 y14 y15 y16 y17 y18 y19 y20 y21 y22 y23 y24 y25 y26 y27 y28 y29 y30 y31 y32 y33 y34 y35 y36 y37 y38 y39 y40 y41 y42 y43 y44 y45 y46 y47 y48 y49 y50 y51 y52 y53 y54 y55 y56 y57 y58 y59 y60 y61 y62 y63 y81
    rw [cast0] at lp
    simp -implicitDefEqProofs (maxSteps := 1000000) (disch := (refine id ?_; first | with_reducible assumption | ((fail_if_success (with_reducible apply isT_of)); (fail_if_success (first | with_reducible refine nat_le_id ?_ | with_reducible refine nat_ne_id ?_)); first | omega | fail))) only [hx, hb1', k27_1111010_4, ↓bindV_some, ↓bindS_some, ↓bindT_some, ↓bindO_some, ↓condB_true, ↓condB_false, bindV_some, bindS_some, bindT_some, bindO_some, wrap64, ↓condK_B, bin_add, bin_lss, cell_at, put_cons, cellOf_row, putOf_row, nth_zero, nth_succ, aggOf_some, cast0, eq_self, new_c, upd_self, relock_c, relock_new, bindO_bindS, qS_true, unlock_some, splice_nil, splice_cons, decide_true, decide_false, and_self, Nat.zero_add, List.length_cons, List.length_nil, List.take_zero, List.set_cons_zero, List.set_cons_succ, List.all_cons, List.all_nil, storable_slice, Bool.and_self, Nat.reduceAdd, Nat.reduceSub, Nat.reduceMul, Nat.reduceLeDiff, Nat.reduceLT, Nat.reduceEqDiff, Int.reduceLE, Int.reduceLT, Int.reduceAdd, Int.reduceNeg, Int.reduceEq, Int.reduceSub, Int.reduceMul, Int.reduceToNat, Int.toNat_natCast, ↓reduceIte, reduceCtorEq, ld_23, st_23, len_23, ix_23, fa_26_6, ld_32, bs_23_1_0]
    exact lp _ _ _ _ _ _ _ _ _ _ _ _ _ _ _ _ _ _ _ _ _ _ _ _ _ _ _ _ _ _ _ _ _ _ _ _ _ _ _ _ _ _ _ _ _ _ _ _ _ _ _ _ _ _ _ _ _ _ _ _ _
  | succ m ih =>
    intro j hmj S g w rd h3  vl sl nv ndv n3v hbx hb1 hb2 y0 y4 y5 y6 y8 y9 y10 y11 y12 y13 y14 y15 y16 y17 y18 y19 y20 y21 y22 y23 y24 y25 y26 y27 y28 y29 y30 y31 y32 y33 y34 y35 y36 y37 y38 y39 y40 y41 y42 y43 y44 y45 y46 y64 y65 y66 y67 y68 y69 y70 y71 y72 y73 y74 y75 y76 y77 y78 y79 y80 y81
    have q1 := row_lt g.ok hb1
    have q2 := row_lt g.ok hb2
    have q3 := row_lt g.ok hbx
    have hL3 : S.lock ≤ b3 := by rw [w.1]; exact Nat.le_trans hL0 p3
    have hjl : j < c.entries.length := by omega
    have hx : (j : Int) < (c.entries.length : Int) := by omega
    have e2 : IntKind.i64.wrap ((j : Int) + 1) = ((j + 1 : Nat) : Int) := by rw [wrap64 (by omega) (by omega)]; omega
    have ih := ih (j + 1) (by omega)
    have hS := h0.low w
    obtain ⟨b, o, cp, e, hbS, hr⟩ := hS.ent.at (by omega)
    have eA : q.ae = some ⟨b, o, none⟩ := by injection e
    have e5 := (hr j hjl).1
    rw [show NT.k = 4 from rfl, show NT.cs c.entries[j] = [.int .i64 c.entries[j].f, .int .u32 (c.entries[j].t : Int), .int .i64 c.entries[j].ph, .int .i64 c.entries[j].sz] from rfl] at e5
    rw [take_succ' c.entries j hjl] at ih
    have hlen : (c.entries.take j).length = j := by rw [List.length_take]; omega
    clear hr e
    generalize c.entries[j] = x at *
    have hk0 := sl
    have hdf := hvf
    obtain ⟨al, cl, rfl⟩ := sl.form
    have hN := g.n; have hL : S.lock ≤ S.c := g.ok.1
    rw [r27_1111010]
    simp -implicitDefEqProofs (maxSteps := 1000000) (disch := (refine id ?_; first | with_reducible assumption | ((fail_if_success (with_reducible apply isT_of)); (fail_if_success (first | with_reducible refine nat_le_id ?_ | with_reducible refine nat_ne_id ?_)); first | omega | fail))) only [hx, hbx, hb1, e2, e5, eA, ↓bindV_some, ↓bindS_some, ↓bindT_some, ↓bindO_some, ↓condB_true, ↓condB_false, bindV_some, bindS_some, bindT_some, bindO_some, wrap64, ↓condK_B, bin_add, bin_lss, cell_at, put_cons, cellOf_row, putOf_row, nth_zero, nth_succ, aggOf_some, cast0, eq_self, new_c, upd_self, relock_c, relock_new, bindO_bindS, qS_true, unlock_some, splice_nil, splice_cons, decide_true, decide_false, and_self, Nat.zero_add, List.length_cons, List.length_nil, List.take_zero, List.set_cons_zero, List.set_cons_succ, List.all_cons, List.all_nil, storable_slice, Bool.and_self, Nat.reduceAdd, Nat.reduceSub, Nat.reduceMul, Nat.reduceLeDiff, Nat.reduceLT, Nat.reduceEqDiff, Int.reduceLE, Int.reduceLT, Int.reduceAdd, Int.reduceNeg, Int.reduceEq, Int.reduceSub, Int.reduceMul, Int.reduceToNat, Int.toNat_natCast, ↓reduceIte, reduceCtorEq, ld_23, st_23, len_23, ix_23, fa_26_6, ld_32, bs_23_1_0]
    have g1 : Gd W (S.new (.row (NT.fl [x]) 0)) := g.new rfl
    refine Wp.grow (T := NT) (new := [x]) g1 elc23 (hk0.new g.ok rfl) (src_made Try.underlying23 (sz := 4) (n := 1) g (l := NT.fl [x]) rfl (by decide) 0) rfl (by rw [hlen]; simp only [List.length_cons, List.length_nil]; omega) fun v' S' g' sl' x2 fr' => ?_
    have x0 := Ext.pre g.ok (rfl : objLt (S.c + 1) (.row (NT.fl [x]) 0) = true) x2
    have hk1 := sl'
    have hv' := (sl'.rd g').1
    obtain ⟨a', c', rfl⟩ := sl'.form
    have q1' : b1 < S'.c := Nat.lt_of_lt_of_le q1 x0.c
    have q2' : b2 < S'.c := Nat.lt_of_lt_of_le q2 x0.c
    have q3' : b3 < S'.c := Nat.lt_of_lt_of_le q3 x0.c
    have hbx' : S'.heap b3 = _ := (x0.same b3 q3 (fun hh => (nv b3 hh).2.2.1 rfl)).trans hbx
    have hb1' : S'.heap b1 = _ := (x0.same b1 q1 (fun hh => (nv b1 hh).1 rfl)).trans hb1
    have hb2' : S'.heap b2 = _ := (x0.same b2 q2 (fun hh => (nv b2 hh).2.1 rfl)).trans hb2
    have hL' : S'.lock ≤ b3 := by rw [x0.lock]; exact hL3
    have hd' := vlt1_mono x0.c rd.1
    simp -implicitDefEqProofs (maxSteps := 1000000) (disch := (refine id ?_; first | with_reducible assumption | ((fail_if_success (with_reducible apply isT_of)); (fail_if_success (first | with_reducible refine nat_le_id ?_ | with_reducible refine nat_ne_id ?_)); first | omega | fail))) only [hbx', ↓bindV_some, ↓bindS_some, ↓bindT_some, ↓bindO_some, ↓condB_true, ↓condB_false, bindV_some, bindS_some, bindT_some, bindO_some, wrap64, ↓condK_B, bin_add, bin_lss, cell_at, put_cons, cellOf_row, putOf_row, nth_zero, nth_succ, aggOf_some, cast0, eq_self, new_c, upd_self, relock_c, relock_new, bindO_bindS, qS_true, unlock_some, splice_nil, splice_cons, decide_true, decide_false, and_self, Nat.zero_add, List.length_cons, List.length_nil, List.take_zero, List.set_cons_zero, List.set_cons_succ, List.all_cons, List.all_nil, storable_slice, Bool.and_self, Nat.reduceAdd, Nat.reduceSub, Nat.reduceMul, Nat.reduceLeDiff, Nat.reduceLT, Nat.reduceEqDiff, Int.reduceLE, Int.reduceLT, Int.reduceAdd, Int.reduceNeg, Int.reduceEq, Int.reduceSub, Int.reduceMul, Int.reduceToNat, Int.toNat_natCast, ↓reduceIte, reduceCtorEq, ld_23, st_23, len_23, ix_23, fa_26_6, ld_32, bs_23_1_0]
    have hob : objLt S'.c (.row (ycs c vd (.slice a' (c.entries.take j ++ [x]).length c') (.slice none 0 0)) 0) = true := by
      simp only [objLt_row, List.all_cons, List.all_nil, vlt1_int, hd', hv', vlt1_nils, Bool.and_self]
    have x3 : Ext [b3] S' _ := Ext.upd g'.ok q3' hob
    have fr2 : ∀ i, i ∈ blkOf (.slice a' (c.entries.take j ++ [x]).length c') → i ≠ b1 ∧ i ≠ b2 ∧ i ≠ b3 ∧ S.c ≤ i := fun i hi => by
      have := fr' i hi
      rw [new_c] at this
      exact ⟨by omega, by omega, by omega, by omega⟩
    refine ih _ (x3.good g') (Low.ext (Low.ext w x0 (fun i hi => (nv i hi).2.2.2)) x3 (fun i hi => by rw [List.mem_singleton] at hi; omega)) ((rd.ext x0 ndv).ext x3 fun i hi => by rw [List.mem_singleton]; exact (nd i hi).2.2.1) (fun s hs => ((h3 s hs).ext x0 (n3v s hs)).ext x3 fun i hi => by rw [List.mem_singleton]; exact (n3 s hs i hi).2.2.1) _ (hk1.keep x3 (fun i hi => by rw [List.mem_singleton]; exact (fr2 i hi).2.2.1) g'.ok) (fun i hi => ⟨(fr2 i hi).1, (fr2 i hi).2.1, (fr2 i hi).2.2.1, by have := (fr2 i hi).2.2.2; have := w.2.1; omega⟩) (fun i hi h' => by have := rd.lt i hi; have := (fr2 i h').2.2.2; omega) (fun s hs i hi h' => by have := (h3 s hs).lt i hi; have := (fr2 i h').2.2.2; omega) (upd_self _ _) ((upd_ne _ h13).trans hb1') ((upd_ne _ h23).trans hb2') _ _ _ _ _ _ _ _ _ _ _ _ _ _ _ _ _ _ _ _ _ _ _ _ _ _ _ _ _ _ _ _ _ _ _ _ _ _ _ _ _ _ _ _ _ _ _ _ _ _ _ _ _ _ _ _ _ _ _ _ _
end
end Go.Proofs.Ytogcdgdnjinjkaa.F
end
section
namespace Go.Proofs.Ytogcdgdnjinjkaa.F
open Go Go.Proofs.Ytogcdgdnjinjkaa.E
set_option linter.unusedVariables false
set_option linter.unusedSimpArgs false
section
variable {W : World}
theorem Sl_low {α : Type} {T : Enc α} {S S' : St} {v : Value} {l : List α} (h : Sl T S v l) (ok : Ok S) (k : Low S S') : Sl T S' v l := by
  rcases h with h | ⟨b, n, c, pre, e, h1, h2, h3⟩
  · exact .inl h
  · exact .inr ⟨b, n, c, pre, e, by rw [k.1]; exact h1, (k.2.2 b (row_lt ok h2)).trans h2, h3⟩
set_option maxRecDepth 100000 in
set_option maxHeartbeats 1000000 in
theorem yrow_loop (S0 : St) (hN0 : W.heap.size ≤ S0.c) (hL0 : S0.lock ≤ S0.c) (c : Cfg) (q : Pl) (hB : CfgB c) (h0 : CfgAt W S0 c q) {b1 b2 b3 : Nat} (p1 : S0.c ≤ b1) (p2 : S0.c ≤ b2) (p3 : S0.c ≤ b3) (h12 : b1 ≠ b2) (h13 : b1 ≠ b3) (h23 : b2 ≠ b3) (j : Nat) (hj : j < c.delays.length) (H : ∀ (S : St) (g : Gd W S) (w : Low S0 S) (svs : List Sv) (hsv : svs.map (·.l) = c.delays.take (j + 1)) (vd : Value) (sd : Sl VT S vd svs) (h3 : ∀ s ∈ svs, Rd IT W S (.slice s.a s.n s.c) s.l) (nd : (∀ i, i ∈ blkOf vd → i ≠ b1 ∧ i ≠ b2 ∧ i ≠ b3 ∧ S0.c ≤ i)) (n3 : ∀ s ∈ svs, ∀ i, i ∈ blkOf (.slice s.a s.n s.c) → i ≠ b1 ∧ i ≠ b2 ∧ i ≠ b3 ∧ S0.c ≤ i ∧ i ∉ blkOf vd) (hbx : S.heap b3 = .row (ycs c vd (.slice none 0 0) (.slice none 0 0)) 0) (hb1 : S.heap b1 = .row (ccs c q) 0) (hb2 : S.heap b2 = (.row [.int .i64 0, .int .i64 0, .int .i64 0, .int .i64 0, .int .i64 0, .slice none 0 0, .slice none 0 0, .slice none 0 0, .int .i64 0] 0)) (y0 y7 y8 y9 y10 y11 y12 y47 y48 y49 y50 y51 y52 y53 y54 y55 y56 y57 y58 y59 y60 y61 y62 y63 y64 y65 y66 y67 y68 y69 y70 y71 y72 y73 y74 y75 y76 y77 y78 y79 y80 y81 : Value),
    Wp (bindO (l27_111010 W y0 (.pointer (some ⟨b1, 0, none⟩)) (.pointer (some ⟨b2, 0, none⟩)) (.pointer (some ⟨b3, 0, none⟩)) (.int .i64 ((j + 1 : Nat) : Int)) y7 y8 y9 y10 y11 y12 y47 y48 y49 y50 y51 y52 y53 y54 y55 y56 y57 y58 y59 y60 y61 y62 y63 y64 y65 y66 y67 y68 y69 y70 y71 y72 y73 y74 y75 y76 y77 y78 y79 y80 y81 S) (kc W c27 [1, 1, 1, 0, 1, 0] f27)) (fun r => ∃ q', r.1 = cvl c q' ∧ Gd W r.2 ∧ Low S0 r.2 ∧ OutAt W S0.c r.2 c q'))
    (S1 : St) (g1 : Gd W S1) (w1 : Low S0 S1) (svs : List Sv) (hsv : svs.map (·.l) = c.delays.take j) (vd : Value) (sd : Sl VT S1 vd svs) (h3 : ∀ s ∈ svs, Rd IT W S1 (.slice s.a s.n s.c) s.l) (nd : (∀ i, i ∈ blkOf vd → i ≠ b1 ∧ i ≠ b2 ∧ i ≠ b3 ∧ S0.c ≤ i)) (n3 : ∀ s ∈ svs, ∀ i, i ∈ blkOf (.slice s.a s.n s.c) → i ≠ b1 ∧ i ≠ b2 ∧ i ≠ b3 ∧ S0.c ≤ i ∧ i ∉ blkOf vd) (hbx0 : S1.heap b3 = .row (ycs c vd (.slice none 0 0) (.slice none 0 0)) 0) (hb10 : S1.heap b1 = .row (ccs c q) 0) (hb20 : S1.heap b2 = (.row [.int .i64 0, .int .i64 0, .int .i64 0, .int .i64 0, .int .i64 0, .slice none 0 0, .slice none 0 0, .slice none 0 0, .int .i64 0] 0))
    (b o : Nat) (eA : q.ad = some ⟨b, o, none⟩) (s : Sv) (hsl : c.delays[j] = s.l) (e5 : ∀ U, Low S0 U → U.cell W ⟨b, o + j, none⟩ = some (.slice s.a s.n s.c)) (rs : ∀ U, Low S0 U → Rd IT W U (.slice s.a s.n s.c) s.l) (m : Nat) : ∀ (k : Nat) (hmk : m + k = s.l.length) (S : St) (g : Gd W S) (w : Low S1 S) (vl : Value) (sl : Sl IT S vl (s.l.take k)) (nv : ∀ i, i ∈ blkOf vl → S1.c ≤ i) (y0 y7 y8 y9 y10 y11 y12 y13 y14 y15 y16 y17 y18 y19 y41 y42 y43 y44 y45 y46 y47 y48 y49 y50 y51 y52 y53 y54 y55 y56 y57 y58 y59 y60 y61 y62 y63 y64 y65 y66 y67 y68 y69 y70 y71 y72 y73 y74 y75 y76 y77 y78 y79 y80 y81 : Value),
    Wp (bindO (l27_11101001001010 W y0 (.pointer (some ⟨b1, 0, none⟩)) (.pointer (some ⟨b2, 0, none⟩)) (.pointer (some ⟨b3, 0, none⟩)) (.int .i64 (j : Int)) vl (.int .i64 (k : Int)) y7 y8 y9 y10 y11 y12 y13 y14 y15 y16 y17 y18 y19 y41 y42 y43 y44 y45 y46 y47 y48 y49 y50 y51 y52 y53 y54 y55 y56 y57 y58 y59 y60 y61 y62 y63 y64 y65 y66 y67 y68 y69 y70 y71 y72 y73 y74 y75 y76 y77 y78 y79 y80 y81 S) (fun e A S => bindO (rk W c27_111010 [1, 0, 0, 1, 0, 1, 0] e A S) (kc W c27 [1, 1, 1, 0, 1, 0] f27))) (fun r => ∃ q', r.1 = cvl c q' ∧ Gd W r.2 ∧ Low S0 r.2 ∧ OutAt W S0.c r.2 c q') := by
  have hW1 : W.heap.size ≤ b1 := Nat.le_trans hN0 p1
  have hW3 : W.heap.size ≤ b3 := Nat.le_trans hN0 p3
  have hBd := hB.ldd s.l (by rw [← hsl]; exact List.getElem_mem hj)
  have hBD := hB.ld
  have q10 := row_lt g1.ok hb10
  have q20 := row_lt g1.ok hb20
  have q30 := row_lt g1.ok hbx0
  have hxj : (j : Int) < (c.delays.length : Int) := by omega
  induction m with
  | zero =>
    intro k hmk S g w vl sl nv y0 y7 y8 y9 y10 y11 y12 y13 y14 y15 y16 y17 y18 y19 y41 y42 y43 y44 y45 y46 y47 y48 y49 y50 y51 y52 y53 y54 y55 y56 y57 y58 y59 y60 y61 y62 y63 y64 y65 y66 y67 y68 y69 y70 y71 y72 y73 y74 y75 y76 y77 y78 y79 y80 y81
    have etk : s.l.take k = s.l := List.take_of_length_le (by omega)
    rw [etk] at sl
    have w0 := w1.trans w
    have e5' := e5 S w0
    have hsn := slice_len (rs S w0)
    have hx : ¬ ((k : Int) < (s.n : Int)) := by omega
    have hbx := (w.2.2 b3 q30).trans hbx0
    have hb1 := (w.2.2 b1 q10).trans hb10
    have hb2 := (w.2.2 b2 q20).trans hb20
    have q1 := row_lt g.ok hb1
    have q2 := row_lt g.ok hb2
    have q3 := row_lt g.ok hbx
    have hL3 : S.lock ≤ b3 := by rw [w0.1]; exact Nat.le_trans hL0 p3
    have e2 : IntKind.i64.wrap ((j : Int) + 1) = ((j + 1 : Nat) : Int) := by rw [wrap64 (by omega) (by omega)]; omega
    have hlen : svs.length = j := by have := congrArg List.length hsv; rw [List.length_map, List.length_take] at this; omega
    have hdb := fun i (hi : i ∈ blkOf vd) => sd.lt g1.ok i hi
    have hk0 := Sl_low sd g1.ok w
    have hw := w.2.1
    have hw1 := w1.2.1
    have rvl := sl.rd g
    have hvl := rvl.1
    have nvl := fun i (hi : i ∈ blkOf vl) => And.intro (nv i hi) (sl.lt g.ok i hi)
    obtain ⟨ad, cd, rfl⟩ := sd.form
    obtain ⟨al, cl, rfl⟩ := sl.form
    have hcl2 : (VT.fl [(⟨al, s.l.length, cl, s.l⟩ : Sv)]).all (vlt1 (S.c + 1)) = true := by
      show [Value.slice al s.l.length cl].all (vlt1 (S.c + 1)) = true
      rw [List.all_cons, vlt1_mono (Nat.le_succ _) hvl]; rfl
    have g2 : Gd W (S.new (.row (VT.fl [(⟨al, s.l.length, cl, s.l⟩ : Sv)]) 0)) := g.new hcl2
    have hN := g.n; have hL : S.lock ≤ S.c := g.ok.1
    rw [r27_11101001001010]
    simp -implicitDefEqProofs (maxSteps := 1000000) (disch := (refine id ?_; first | with_reducible assumption | ((fail_if_success (with_reducible apply isT_of)); (fail_if_success (first | with_reducible refine nat_lt_id ?_ | with_reducible refine nat_le_id ?_ | with_reducible refine nat_ne_id ?_)); first | omega | fail))) only [hx, hxj, hb1, hbx, eA, e5', k27_11101001001010_2, ↓bindV_some, ↓bindS_some, ↓bindT_some, ↓bindO_some, ↓condB_true, ↓condB_false, bindV_some, bindS_some, bindT_some, bindO_some, wrap64, ↓condK_B, bin_add, bin_lss, cell_at, put_cons, cellOf_row, putOf_row, nth_zero, nth_succ, eq_self, upd_self, bindO_bindS, splice_nil, splice_cons, decide_true, decide_false, and_self, Nat.zero_add, Nat.add_zero, List.length_cons, List.length_nil, List.set_cons_zero, List.set_cons_succ, List.all_cons, List.all_nil, storable_slice, Bool.and_self, Nat.reduceAdd, Nat.reduceSub, Nat.reduceMul, Nat.reduceLeDiff, Nat.reduceLT, Nat.reduceEqDiff, Int.reduceLE, Int.reduceLT, Int.reduceAdd, Int.reduceNeg, Int.reduceEq, Int.reduceSub, Int.reduceMul, Int.reduceToNat, Int.toNat_natCast, Nat.mul_one, ↓reduceIte, reduceCtorEq, ld_2, ld_22, st_22, ix_22, fa_26_5, ld_45, len_45, ix_45, bs_22_1_0, bs_45_1_0]
    refine Wp.grow (T := VT) (new := [(⟨al, s.l.length, cl, s.l⟩ : Sv)]) g2 elc22 (hk0.new g.ok hcl2) (src_made Try.underlying22 (sz := 1) (n := 1) g (l := VT.fl [(⟨al, s.l.length, cl, s.l⟩ : Sv)]) rfl (by decide) 0) hcl2 (by rw [hlen]; simp only [List.length_cons, List.length_nil]; omega) fun v' S' g' sl' x2 fr' => ?_
    have x := Ext.pre g.ok (show objLt (S.c + 1) (.row (VT.fl [(⟨al, s.l.length, cl, s.l⟩ : Sv)]) 0) = true from hcl2) x2
    have hk1 := sl'
    have hv' := (sl'.rd g').1
    obtain ⟨a', c', rfl⟩ := sl'.form
    have q3' : b3 < S'.c := Nat.lt_of_lt_of_le q3 x.c
    have hbx' : S'.heap b3 = _ := (x.same b3 q3 (fun hh => (nd b3 hh).2.2.1 rfl)).trans hbx
    have hb1' : S'.heap b1 = _ := (x.same b1 q1 (fun hh => (nd b1 hh).1 rfl)).trans hb1
    have hb2' : S'.heap b2 = _ := (x.same b2 q2 (fun hh => (nd b2 hh).2.1 rfl)).trans hb2
    have hL' : S'.lock ≤ b3 := by rw [x.lock]; exact hL3
    simp -implicitDefEqProofs (maxSteps := 1000000) (disch := (refine id ?_; first | with_reducible assumption | ((fail_if_success (with_reducible apply isT_of)); (fail_if_success (first | with_reducible refine nat_lt_id ?_ | with_reducible refine nat_le_id ?_ | with_reducible refine nat_ne_id ?_)); first | omega | fail))) only [hbx', e2, ↓bindV_some, ↓bindS_some, ↓bindT_some, ↓bindO_some, ↓condB_true, ↓condB_false, bindV_some, bindS_some, bindT_some, bindO_some, wrap64, ↓condK_B, bin_add, bin_lss, cell_at, put_cons, cellOf_row, putOf_row, nth_zero, nth_succ, eq_self, upd_self, bindO_bindS, splice_nil, splice_cons, decide_true, decide_false, and_self, Nat.zero_add, Nat.add_zero, List.length_cons, List.length_nil, List.set_cons_zero, List.set_cons_succ, List.all_cons, List.all_nil, storable_slice, Bool.and_self, Nat.reduceAdd, Nat.reduceSub, Nat.reduceMul, Nat.reduceLeDiff, Nat.reduceLT, Nat.reduceEqDiff, Int.reduceLE, Int.reduceLT, Int.reduceAdd, Int.reduceNeg, Int.reduceEq, Int.reduceSub, Int.reduceMul, Int.reduceToNat, Int.toNat_natCast, Nat.mul_one, ↓reduceIte, reduceCtorEq, ld_2, ld_22, st_22, ix_22, fa_26_5, ld_45, len_45, ix_45, bs_22_1_0, bs_45_1_0]
    have hob : objLt S'.c (.row (ycs c (.slice a' (svs ++ [(⟨al, s.l.length, cl, s.l⟩ : Sv)]).length c') (.slice none 0 0) (.slice none 0 0)) 0) = true := by
      simp only [objLt_row, List.all_cons, List.all_nil, vlt1_int, hv', vlt1_nils, Bool.and_self]
    have x3 : Ext [b3] S' _ := Ext.upd g'.ok q3' hob
    have fr2 : ∀ i, i ∈ blkOf (.slice a' (svs ++ [(⟨al, s.l.length, cl, s.l⟩ : Sv)]).length c') → i ≠ b1 ∧ i ≠ b2 ∧ i ≠ b3 ∧ S.c + 1 ≤ i := fun i hi => by
      have := fr' i hi
      simp only [new_c] at this
      exact ⟨by omega, by omega, by omega, by omega⟩
    have w3 := Low.ext (Low.ext w0 x (fun i hi => (nd i hi).2.2.2)) x3 (fun i hi => by rw [List.mem_singleton] at hi; omega)
    refine H _ (x3.good g') w3 (svs ++ [(⟨al, s.l.length, cl, s.l⟩ : Sv)]) (by rw [List.map_append, hsv, take_succ' c.delays j hj, hsl]; rfl) _ (hk1.keep x3 (fun i hi => by rw [List.mem_singleton]; exact (fr2 i hi).2.2.1) g'.ok) ?_ (fun i hi => ⟨(fr2 i hi).1, (fr2 i hi).2.1, (fr2 i hi).2.2.1, by have := (fr2 i hi).2.2.2; omega⟩) ?_ (upd_self _ _) ((upd_ne _ h13).trans hb1') ((upd_ne _ h23).trans hb2') _ _ _ _ _ _ _ _ _ _ _ _ _ _ _ _ _ _ _ _ _ _ _ _ _ _ _ _ _ _ _ _ _ _ _ _ _ _ _ _ _ _
    · intro t ht
      rcases List.mem_append.1 ht with ht | ht
      · exact (((h3 t ht).low w).ext x (fun i hi => (n3 t ht i hi).2.2.2.2)).ext x3 fun i hi => by rw [List.mem_singleton]; exact (n3 t ht i hi).2.2.1
      · rw [List.mem_singleton] at ht
        subst ht
        exact (rvl.ext x (fun i hi h' => by have := (nvl i hi).1; have := hdb i h'; omega)).ext x3 fun i hi => by rw [List.mem_singleton]; have := (nvl i hi).1; omega
    · intro t ht i hi
      rcases List.mem_append.1 ht with ht | ht
      · have hlt := (h3 t ht).lt i hi
        exact ⟨(n3 t ht i hi).1, (n3 t ht i hi).2.1, (n3 t ht i hi).2.2.1, (n3 t ht i hi).2.2.2.1, fun h' => by have := (fr2 i h').2.2.2; omega⟩
      · rw [List.mem_singleton] at ht
        subst ht
        have hi' := nvl i hi
        exact ⟨by omega, by omega, by omega, by omega, fun h' => by have := (fr2 i h').2.2.2; omega⟩
  | succ m ih =>
    intro k hmk S g w vl sl nv y0 y7 y8 y9 y10 y11 y12 y13 y14 y15 y16 y17 y18 y19 y41 y42 y43 y44 y45 y46 y47 y48 y49 y50 y51 y52 y53 y54 y55 y56 y57 y58 y59 y60 y61 y62 y63 y64 y65 y66 y67 y68 y69 y70 y71 y72 y73 y74 y75 y76 y77 y78 y79 y80 y81
    have w0 := w1.trans w
    have e5' := e5 S w0
    have hrs := rs S w0
    have hsn := slice_len hrs
    have hkl : k < s.l.length := by omega
    have hx : (k : Int) < (s.n : Int) := by omega
    have hbx := (w.2.2 b3 q30).trans hbx0
    have hb1 := (w.2.2 b1 q10).trans hb10
    have e2 : IntKind.i64.wrap ((k : Int) + 1) = ((k + 1 : Nat) : Int) := by rw [wrap64 (by omega) (by omega)]; omega
    have ih := ih (k + 1) (by omega)
    obtain ⟨bs, os, cps, es, hbS, hr⟩ := hrs.at (by omega)
    have eX : s.a = some ⟨bs, os, none⟩ := by injection es
    have e6 := (hr k hkl).2 0 (by decide)
    rw [show IT.k = 1 from rfl, show IT.cs s.l[k] = [.int .i64 s.l[k]] from rfl, Nat.mul_one, Nat.add_zero, nth_zero] at e6
    rw [take_succ' s.l k hkl] at ih
    have hlen : (s.l.take k).length = k := by rw [List.length_take]; omega
    clear hr es
    generalize s.l[k] = x at *
    have hk0 := sl
    obtain ⟨al, cl, rfl⟩ := sl.form
    have hw := w.2.1
    have hN := g.n; have hL : S.lock ≤ S.c := g.ok.1
    rw [r27_11101001001010]
    simp -implicitDefEqProofs (maxSteps := 1000000) (disch := (refine id ?_; first | with_reducible assumption | ((fail_if_success (with_reducible apply isT_of)); (fail_if_success (first | with_reducible refine nat_lt_id ?_ | with_reducible refine nat_le_id ?_ | with_reducible refine nat_ne_id ?_)); first | omega | fail))) only [hx, hxj, hb1, e2, eA, e5', eX, e6, ↓bindV_some, ↓bindS_some, ↓bindT_some, ↓bindO_some, ↓condB_true, ↓condB_false, bindV_some, bindS_some, bindT_some, bindO_some, wrap64, ↓condK_B, bin_add, bin_lss, cell_at, put_cons, cellOf_row, putOf_row, nth_zero, nth_succ, eq_self, upd_self, bindO_bindS, splice_nil, splice_cons, decide_true, decide_false, and_self, Nat.zero_add, Nat.add_zero, List.length_cons, List.length_nil, List.set_cons_zero, List.set_cons_succ, List.all_cons, List.all_nil, storable_slice, Bool.and_self, Nat.reduceAdd, Nat.reduceSub, Nat.reduceMul, Nat.reduceLeDiff, Nat.reduceLT, Nat.reduceEqDiff, Int.reduceLE, Int.reduceLT, Int.reduceAdd, Int.reduceNeg, Int.reduceEq, Int.reduceSub, Int.reduceMul, Int.reduceToNat, Int.toNat_natCast, Nat.mul_one, ↓reduceIte, reduceCtorEq, ld_2, ld_22, st_22, ix_22, fa_26_5, ld_45, len_45, ix_45, bs_22_1_0, bs_45_1_0]
    have gA : Gd W (S.new (.row (IT.fl [x]) 0)) := g.new rfl
    refine Wp.grow (T := IT) (new := [x]) gA elc45 (hk0.new g.ok rfl) (src_made Try.underlying45 (sz := 1) (n := 1) g (l := IT.fl [x]) rfl (by decide) 0) rfl (by rw [hlen]; simp only [List.length_cons, List.length_nil]; omega) fun v' S' g' sl' x2 fr' => ?_
    have x0 := Ext.pre g.ok (rfl : objLt (S.c + 1) (.row (IT.fl [x]) 0) = true) x2
    exact ih S' g' (Low.ext w x0 (fun i hi => nv i hi)) v' sl' (fun i hi => by have := fr' i hi; simp only [new_c] at this; omega) _ _ _ _ _ _ _ _ _ _ _ _ _ _ _ _ _ _ _ _ _ _ _ _ _ _ _ _ _ _ _ _ _ _ _ _ _ _ _ _ _ _ _ _ _ _ _ _ _ _ _ _ _ _ _
set_option maxRecDepth 100000 in
set_option maxHeartbeats 1000000 in
theorem yrows_loop (S0 : St) (hN0 : W.heap.size ≤ S0.c) (hL0 : S0.lock ≤ S0.c) (c : Cfg) (q : Pl) (hB : CfgB c) (h0 : CfgAt W S0 c q) {b1 b2 b3 : Nat} (p1 : S0.c ≤ b1) (p2 : S0.c ≤ b2) (p3 : S0.c ≤ b3) (h12 : b1 ≠ b2) (h13 : b1 ≠ b3) (h23 : b2 ≠ b3) (m : Nat) : ∀ (j : Nat) (hmj : m + j = c.delays.length), ∀ (S : St) (g : Gd W S) (w : Low S0 S) (svs : List Sv) (hsv : svs.map (·.l) = c.delays.take j) (vd : Value) (sd : Sl VT S vd svs) (h3 : ∀ s ∈ svs, Rd IT W S (.slice s.a s.n s.c) s.l) (nd : (∀ i, i ∈ blkOf vd → i ≠ b1 ∧ i ≠ b2 ∧ i ≠ b3 ∧ S0.c ≤ i)) (n3 : ∀ s ∈ svs, ∀ i, i ∈ blkOf (.slice s.a s.n s.c) → i ≠ b1 ∧ i ≠ b2 ∧ i ≠ b3 ∧ S0.c ≤ i ∧ i ∉ blkOf vd) (hbx : S.heap b3 = .row (ycs c vd (.slice none 0 0) (.slice none 0 0)) 0) (hb1 : S.heap b1 = .row (ccs c q) 0) (hb2 : S.heap b2 = (.row [.int .i64 0, .int .i64 0, .int .i64 0, .int .i64 0, .int .i64 0, .slice none 0 0, .slice none 0 0, .slice none 0 0, .int .i64 0] 0)) (y0 y7 y8 y9 y10 y11 y12 y47 y48 y49 y50 y51 y52 y53 y54 y55 y56 y57 y58 y59 y60 y61 y62 y63 y64 y65 y66 y67 y68 y69 y70 y71 y72 y73 y74 y75 y76 y77 y78 y79 y80 y81 : Value),
    Wp (bindO (l27_111010 W y0 (.pointer (some ⟨b1, 0, none⟩)) (.pointer (some ⟨b2, 0, none⟩)) (.pointer (some ⟨b3, 0, none⟩)) (.int .i64 (j : Int)) y7 y8 y9 y10 y11 y12 y47 y48 y49 y50 y51 y52 y53 y54 y55 y56 y57 y58 y59 y60 y61 y62 y63 y64 y65 y66 y67 y68 y69 y70 y71 y72 y73 y74 y75 y76 y77 y78 y79 y80 y81 S) (kc W c27 [1, 1, 1, 0, 1, 0] f27)) (fun r => ∃ q', r.1 = cvl c q' ∧ Gd W r.2 ∧ Low S0 r.2 ∧ OutAt W S0.c r.2 c q') := by
  have hBD := hB.ld
  induction m with
  | zero =>
    intro j hmj S g w svs hsv vd sd h3 nd n3 hbx hb1 hb2 y0 y7 y8 y9 y10 y11 y12 y47 y48 y49 y50 y51 y52 y53 y54 y55 y56 y57 y58 y59 y60 y61 y62 y63 y64 y65 y66 y67 y68 y69 y70 y71 y72 y73 y74 y75 y76 y77 y78 y79 y80 y81
    have hW1 : W.heap.size ≤ b1 := Nat.le_trans hN0 p1
    have hx : ¬ ((j : Int) < (c.delays.length : Int)) := by omega
    rw [List.take_of_length_le (by omega)] at hsv
    have hsl : svs.length = c.delays.length := by rw [← hsv, List.length_map]
    have lp := fun y0 y4 y5 y6 y8 y9 y10 y11 y12 y13 y14 y15 y16 y17 y18 y19 y20 y21 y22 y23 y24 y25 y26 y27 y28 y29 y30 y31 y32 y33 y34 y35 y36 y37 y38 y39 y40 y41 y42 y43 y44 y45 y46 y64 y65 y66 y67 y68 y69 y70 y71 y72 y73 y74 y75 y76 y77 y78 y79 y80 y81 => yentries_loop S0 hN0 hL0 c q hB h0 p1 p2 p3 h12 h13 h23 svs hsv (by obtain ⟨a, k, e⟩ := sd.form; exact ⟨a, k, by rw [← hsl]; exact e⟩) nd (fun s hs i hi => ⟨(n3 s hs i hi).1, (n3 s hs i hi).2.1, (n3 s hs i hi).2.2.1, (n3 s hs i hi).2.2.2.1⟩) c.entries.length 0 rfl S g w (sd.rd g) h3 (.slice none 0 0) (by rw [List.take_zero]; exact sl_nil) (fun i hi => by cases hi) (fun i hi h' => by cases h') (fun s hs i hi h' => by cases h') hbx hb1 hb2 y0 y4 y5 y6 y8 y9 y10 y11 y12 y13 y14 y15 y16 y17 y18 y19 y20 y21 y22 y23 y24 y25 y26 y27 y28 y29 y30 y31 y32 y33 y34 y35 y36 y37 y38 y39 y40 y41 y42 y43 y44 y45 y46 y64 y65 y66 y67 y68 y69 y70 y71 y72 y73 y74 y75 y76 y77 y78 y79 y80 y81
    rw [cast0] at lp
    have hN := g.n; have hL : S.lock ≤ S.c := g.ok.1
    rw [r27_111010]
    simp -implicitDefEqProofs (maxSteps := 1000000) (disch := (refine id ?_; first | with_reducible assumption )) only [hx, hb1, k27_111010_0, ↓bindV_some, ↓bindO_some, ↓condB_true, ↓condB_false, bindV_some, bindO_some, ↓condK_B, bin_lss, cell_at, cellOf_row, nth_zero, nth_succ, cast0, eq_self, bindO_bindO, decide_true, decide_false, Nat.zero_add, Nat.add_zero, List.take_zero, Nat.reduceAdd, Nat.reduceSub, Nat.reduceMul, Nat.reduceLeDiff, Nat.reduceLT, Nat.reduceEqDiff, Int.reduceLE, Int.reduceLT, Int.reduceAdd, Int.reduceNeg, Int.reduceEq, Int.reduceSub, Int.reduceMul, Int.reduceToNat, Nat.mul_one, ↓reduceIte, reduceCtorEq, ld_22, len_22, fa_26_5]
    exact lp _ _ _ _ _ _ _ _ _ _ _ _ _ _ _ _ _ _ _ _ _ _ _ _ _ _ _ _ _ _ _ _ _ _ _ _ _ _ _ _ _ _ _ _ _ _ _ _ _ _ _ _ _ _ _ _ _ _ _ _ _
  | succ m ih =>
    intro j hmj S g w svs hsv vd sd h3 nd n3 hbx hb1 hb2 y0 y7 y8 y9 y10 y11 y12 y47 y48 y49 y50 y51 y52 y53 y54 y55 y56 y57 y58 y59 y60 y61 y62 y63 y64 y65 y66 y67 y68 y69 y70 y71 y72 y73 y74 y75 y76 y77 y78 y79 y80 y81
    have hW1 : W.heap.size ≤ b1 := Nat.le_trans hN0 p1
    have hj : j < c.delays.length := by omega
    have hx : (j : Int) < (c.delays.length : Int) := by omega
    obtain ⟨src, u1, u2, u3⟩ := h0.del
    have hsl : src.length = c.delays.length := by rw [← u2, List.length_map]
    have hjs : j < src.length := by omega
    obtain ⟨b, o, cp, e, hbS, hr⟩ := u1.at (by omega)
    have eA : q.ad = some ⟨b, o, none⟩ := by injection e
    have e5 : ∀ U, Low S0 U → U.cell W ⟨b, o + j, none⟩ = some (.slice src[j].a src[j].n src[j].c) := fun U wU => by
      have := (hr j hjs).2 0 (by decide)
      rw [show VT.k = 1 from rfl, show VT.cs src[j] = [.slice src[j].a src[j].n src[j].c] from rfl, Nat.mul_one, Nat.add_zero, nth_zero] at this
      rw [cell_same (S := S0) (wU.2.2 b hbS)]
      exact this
    have rw_ := yrow_loop S0 hN0 hL0 c q hB h0 p1 p2 p3 h12 h13 h23 j hj (ih (j + 1) (by omega)) S g w svs hsv vd sd h3 nd n3 hbx hb1 hb2 b o eA src[j] (by rw [List.getElem_of_eq u2.symm hj, List.getElem_map]) e5 (fun U wU => (u3 src[j] (List.getElem_mem hjs)).low wU) src[j].l.length 0 rfl S g (Low.rfl' S) (.slice none 0 0) (by rw [List.take_zero]; exact sl_nil) (fun i hi => by cases hi)
    rw [cast0] at rw_
    have hN := g.n; have hL : S.lock ≤ S.c := g.ok.1
    rw [r27_111010]
    simp -implicitDefEqProofs (maxSteps := 1000000) (disch := (refine id ?_; first | with_reducible assumption )) only [hx, hb1, ↓bindV_some, ↓bindO_some, ↓condB_true, ↓condB_false, bindV_some, bindO_some, ↓condK_B, bin_lss, cell_at, cellOf_row, nth_zero, nth_succ, cast0, eq_self, bindO_bindO, decide_true, decide_false, Nat.zero_add, Nat.add_zero, List.take_zero, Nat.reduceAdd, Nat.reduceSub, Nat.reduceMul, Nat.reduceLeDiff, Nat.reduceLT, Nat.reduceEqDiff, Int.reduceLE, Int.reduceLT, Int.reduceAdd, Int.reduceNeg, Int.reduceEq, Int.reduceSub, Int.reduceMul, Int.reduceToNat, Nat.mul_one, ↓reduceIte, reduceCtorEq, ld_22, len_22, fa_26_5]
    exact rw_ _ _ _ _ _ _ _ _ _ _ _ _ _ _ _ _ _ _ _ _ _ _ _ _ _ _ _ _ _ _ _ _ _ _ _ _ _ _ _ _ _ _ _ _ _ _ _ _ _ _ _ _ _ _ _
theorem RCopy_ok {S : St} (g : Gd W S) (c : Cfg) (q : Pl) (hB : CfgB c) (h : CfgAt W S c q) : Wp (cw W 27 #[cvl c q] S) fun r => ∃ q', r.1 = cvl c q' ∧ Gd W r.2 ∧ Low S r.2 ∧ OutAt W S.c r.2 c q' := by
  rw [eq27]
  have hN := g.n; have hL : S.lock ≤ S.c := g.ok.1
  have hq := h.vlt
  have g1 := g.new (o := .row [Value.int .i64 c.hosts, .int .i64 c.cycle, .int .i64 c.delay, .int .i64 c.window, .int .i64 c.prec, .slice q.ad c.delays.length q.cd, .slice q.ae c.entries.length q.ce, .slice q.al c.links.length q.cl, .int .i64 c.queue] 0) (objLt_mono (Nat.le_succ _) (cvl_obj hq))
  have hq1 : vlt (S.c + 1) (cvl c q) = true := vlt_mono (by omega) hq
  have ha : [cvl c q].all (vlt S.c) = true := by rw [List.all_cons, hq]; rfl
  have g2 : Gd W ((S.new (.row [Value.int .i64 c.hosts, .int .i64 c.cycle, .int .i64 c.delay, .int .i64 c.window, .int .i64 c.prec, .slice q.ad c.delays.length q.cd, .slice q.ae c.entries.length q.ce, .slice q.al c.links.length q.cl, .int .i64 c.queue] 0)).new (.row [.int .i64 0, .int .i64 0, .int .i64 0, .int .i64 0, .int .i64 0, .slice none 0 0, .slice none 0 0, .slice none 0 0, .int .i64 0] 0)) := g1.new rfl
  have g3 : Gd W (((S.new (.row [Value.int .i64 c.hosts, .int .i64 c.cycle, .int .i64 c.delay, .int .i64 c.window, .int .i64 c.prec, .slice q.ad c.delays.length q.cd, .slice q.ae c.entries.length q.ce, .slice q.al c.links.length q.cl, .int .i64 c.queue] 0)).new (.row [.int .i64 0, .int .i64 0, .int .i64 0, .int .i64 0, .int .i64 0, .slice none 0 0, .slice none 0 0, .slice none 0 0, .int .i64 0] 0)).new (.row (ycs c (.slice none 0 0) (.slice none 0 0) (.slice none 0 0)) 0)) := g2.new rfl
  have lp := fun y0 y7 y8 y9 y10 y11 y12 y47 y48 y49 y50 y51 y52 y53 y54 y55 y56 y57 y58 y59 y60 y61 y62 y63 y64 y65 y66 y67 y68 y69 y70 y71 y72 y73 y74 y75 y76 y77 y78 y79 y80 y81 => yrows_loop S g.n g.ok.1 c q hB h (b1 := S.c) (b2 := S.c + 1) (b3 := S.c + 1 + 1) (Nat.le_refl _) (by omega) (by omega) (by omega) (by omega) (by omega) c.delays.length 0 rfl _ g3 (Low.new (Low.new (Low.new (Low.rfl' S) _) _) _) [] rfl (.slice none 0 0) sl_nil (fun s hs => by cases hs) (fun i hi => by cases hi) (fun s hs => by cases hs) (new_self _) (by rw [new_lo _ (by simp only [new_c]; omega), new_lo _ (by simp only [new_c]; omega)]; exact new_self _) (by rw [new_lo _ (by simp only [new_c]; omega)]; exact new_self _) y0 y7 y8 y9 y10 y11 y12 y47 y48 y49 y50 y51 y52 y53 y54 y55 y56 y57 y58 y59 y60 y61 y62 y63 y64 y65 y66 y67 y68 y69 y70 y71 y72 y73 y74 y75 y76 y77 y78 y79 y80 y81
  rw [cast0] at lp
  simp -implicitDefEqProofs (maxSteps := 1000000) (disch := (refine id ?_; first | with_reducible assumption | ((first | with_reducible refine nat_lt_id ?_ | with_reducible refine nat_le_id ?_ | with_reducible refine nat_ne_id ?_); (first | (simp +arith only [new_c, new_lock, upd_c, upd_lock, relock_c, relock_lock]; done) | (refine Nat.le_trans hL ?_; simp +arith only [new_c, new_lock, upd_c, upd_lock, relock_c, relock_lock]; done) | fail)) )) only [upd_upd, ↓bindV_some, ↓bindS_some, ↓bindT_some, bindV_some, bindS_some, bindT_some, box_agg, cells_at, put_cons, cellsOf_row, putOf_row, aggOf_some, new_self, cast0, eq_self, new_upd, new_at, new_lo, new_c, splice_nil, splice_cons, and_self, Nat.zero_add, List.length_cons, List.length_nil, List.drop_zero, List.take_succ_cons, List.take_zero, List.set_cons_zero, List.set_cons_succ, List.all_cons, List.all_nil, storable_int, storable_slice, Bool.and_self, Nat.reduceAdd, Nat.reduceSub, Nat.reduceMul, Nat.reduceLeDiff, Nat.reduceLT, Nat.reduceEqDiff, Int.reduceLE, Int.reduceLT, Int.reduceAdd, Int.reduceNeg, Int.reduceEq, Int.reduceSub, Int.reduceMul, Int.reduceToNat, ↓reduceIte, Nat.le_refl, reduceCtorEq, st_22, st_23, st_24, fa_26_5, fa_26_6, fa_26_7, ld_26, st_26, al_26]
  exact lp _ _ _ _ _ _ _ _ _ _ _ _ _ _ _ _ _ _ _ _ _ _ _ _ _ _ _ _ _ _ _ _ _ _ _ _ _ _ _ _ _ _
end
end Go.Proofs.Ytogcdgdnjinjkaa.F
end
section
namespace Go.Proofs.Ytogcdgdnjinjkaa.F
open Go Go.Proofs.Ytogcdgdnjinjkaa.E
set_option linter.unusedVariables false
set_option linter.unusedSimpArgs false
section
variable {W : World}
structure Wr (W : World) (S1 : St) (lo hi : Nat) (S : St) : Prop where
  g : Gd W S
  c : S.c = S1.c
  lock : S.lock = S1.lock
  same : ∀ i, (i < lo ∨ hi ≤ i) → S.heap i = S1.heap i
theorem Wr.upd {S1 S : St} {lo hi b : Nat} (h : Wr W S1 lo hi S) (h1 : lo ≤ b) (h2 : b < hi) (h3 : b < S.c) {o : AObj} (ho : objLt S.c o = true) : Wr W S1 lo hi (S.upd b o) :=
  ⟨h.g.upd h3 ho, h.c, h.lock, fun i hi' => (upd_ne _ (by omega)).trans (h.same i hi')⟩
def Shp (sz lo hi : Nat) (S : St) (v : Value) (n : Nat) : Prop :=
  n = 0 ∨ ∃ b c cs k, v = .slice (some ⟨b, 0, none⟩) n c ∧ lo ≤ b ∧ b < hi ∧ S.heap b = .row cs k ∧ cs.length = n * sz
theorem Shp.upd {sz lo hi : Nat} {S : St} {v : Value} {n b k : Nat} {cs cs' : List Value} (h : Shp sz lo hi S v n) (hr : S.heap b = .row cs k) (hl : cs'.length = cs.length) : Shp sz lo hi (S.upd b (.row cs' k)) v n := by
  rcases h with h | ⟨b0, c, cs0, k0, e, h1, h2, h3, h4⟩
  · exact .inl h
  · by_cases hb : b0 = b
    · subst hb
      rw [hr] at h3
      injection h3 with e1 e2
      subst e1
      exact .inr ⟨b0, c, cs', k, e, h1, h2, upd_self _ _, by rw [hl]; exact h4⟩
    · exact .inr ⟨b0, c, cs0, k0, e, h1, h2, (upd_ne _ hb).trans h3, h4⟩
theorem Mk_shp {α : Type} {T : Enc α} {lo hi : Nat} {S : St} {v : Value} {l : List α} (h : Mk T lo hi S v l) : Shp T.k lo hi S v l.length := by
  rcases h with ⟨a, c, rfl, rfl, hv⟩ | ⟨b, c, k, e, h0, hc, h1, h2, hr, hk⟩
  · exact .inl rfl
  · exact .inr ⟨b, c, _, k, e, h1, h2, hr, fl_len T l⟩
theorem put9 {S : St} {b o k : Nat} {cs : List Value} (hL : S.lock ≤ b) (hr : S.heap b = .row cs k) (ho : o < cs.length) : S.put ⟨b, o, none⟩ [.int .i64 (-9)] = some (S.upd b (.row (cs.set o (.int .i64 (-9))) k)) := by
  rw [put_cons hL, hr, putOf_row, if_pos (by simp only [List.length_cons, List.length_nil]; omega), if_pos (show [Value.int .i64 (-9)].all storable = true from rfl)]
  rfl
theorem all_set {p : Value → Bool} {cs : List Value} (h : cs.all p = true) (o : Nat) {v : Value} (hv : p v = true) : (cs.set o v).all p = true := by
  rw [List.all_eq_true] at h ⊢
  intro x hx
  rcases List.mem_or_eq_of_mem_set hx with hx | rfl
  · exact h x hx
  · exact hv
theorem Wr.put {S1 S : St} {lo hi lo2 hi2 sz : Nat} (h : Wr W S1 lo hi S) (hl1 : S1.lock ≤ lo) (h1 : lo ≤ lo2) (h2 : hi2 ≤ hi) {v : Value} {n : Nat} (hs : Shp sz lo2 hi2 S v n) {o : Nat} (ho : o < n * sz) :
    ∃ b c S', v = .slice (some ⟨b, 0, none⟩) n c ∧ S.put ⟨b, o, none⟩ [.int .i64 (-9)] = some S' ∧ Wr W S1 lo hi S' ∧ (∀ i, i < lo2 → S'.heap i = S.heap i) ∧ (∀ (sz' lo' hi' : Nat) (v' : Value) (n' : Nat), Shp sz' lo' hi' S v' n' → Shp sz' lo' hi' S' v' n') := by
  rcases hs with rfl | ⟨b, c, cs, k, e, z1, z2, hr, hlen⟩
  · omega
  · have hb : b < S.c := row_lt h.g.ok hr
    have hcl := h.g.cl b hb
    rw [hr, objLt_row] at hcl
    refine ⟨b, c, _, e, put9 (by rw [h.lock]; omega) hr (by omega), h.upd (by omega) (by omega) hb (by rw [objLt_row]; exact all_set hcl o rfl), fun i hi' => upd_ne _ (by omega), fun sz' lo' hi' v' n' hs' => hs'.upd hr (List.length_set)⟩
set_option maxRecDepth 100000 in
set_option maxHeartbeats 1000000 in
theorem clinks_loop (S1 : St) (c : Cfg) (qa qd qw : Pl) (hB : CfgB c) {b1 b4 b6 lo m1 m2 m3 hi : Nat} (z1 : lo ≤ m1) (z2 : m1 ≤ m2) (z3 : m2 ≤ m3) (z4 : m3 ≤ hi) (zc : hi ≤ S1.c) (hl : S1.lock ≤ lo) (hWl : W.heap.size ≤ lo) (hw1 : W.heap.size ≤ b1) (o1 : b1 < lo) (o4 : hi ≤ b4) (o6 : hi ≤ b6) (hb1 : S1.heap b1 = .row (ccs c qa) 0) (hb4 : S1.heap b4 = .row (ccs c qd) 0) (hb6 : S1.heap b6 = .row (ccs c qw) 0)
    (F1 : ∀ S, Wr W S1 lo hi S → cw W 11 #[cvl c qa] S = some (i64 (checkN c), S)) (F2 : ∀ S, Wr W S1 lo hi S → cw W 23 #[cvl c qa, cvl c qw] S = some (.bool true, S)) (m : Nat) : ∀ (j : Nat) (hmj : m + j = c.links.length) (S : St) (w : Wr W S1 lo hi S) (hs7 : Shp 4 m3 hi S (.slice qd.al c.links.length qd.cl) c.links.length) (y0 y1 y3 y4 y7 y8 y9 y11 y12 y13 y14 y15 y16 y17 y18 y19 y20 y21 y22 y23 y24 y25 y26 y27 y28 y29 y30 y31 y32 y33 y34 y35 y36 y37 y38 y39 y40 y41 y42 y43 y44 y45 y46 y47 y48 y49 y50 y51 y52 y53 y54 y55 y56 y57 y58 y59 y60 y61 y62 y63 y64 y65 y66 y67 y68 y69 y70 y71 y82 y83 y84 y85 y86 : Value), Wp (bindO (l7_11111111010 W y0 y1 (.pointer (some ⟨b1, 0, none⟩)) y3 y4 (.pointer (some ⟨b4, 0, none⟩)) (.pointer (some ⟨b6, 0, none⟩)) y7 y8 y9 y11 y12 y13 y14 y15 y16 y17 y18 y19 y20 y21 y22 y23 y24 y25 y26 y27 y28 y29 y30 y31 y32 y33 y34 y35 y36 y37 y38 y39 y40 y41 y42 y43 y44 y45 y46 y47 y48 y49 y50 y51 y52 y53 y54 y55 y56 y57 y58 y59 y60 y61 y62 y63 y64 y65 y66 y67 y68 y69 y70 y71 (.int .i64 (c.links.length : Int)) (.int .i64 (j : Int)) y82 y83 y84 y85 y86 S) (kc W c7 [1, 1, 1, 1, 1, 1, 1, 1, 0, 1, 0] f7)) (fun r => r.1 = .bool true) := by
  have hw4 : W.heap.size ≤ b4 := by omega
  have hw6 : W.heap.size ≤ b6 := by omega
  have hBl := hB.ll
  induction m with
  | zero =>
    intro j hmj S w hs7 y0 y1 y3 y4 y7 y8 y9 y11 y12 y13 y14 y15 y16 y17 y18 y19 y20 y21 y22 y23 y24 y25 y26 y27 y28 y29 y30 y31 y32 y33 y34 y35 y36 y37 y38 y39 y40 y41 y42 y43 y44 y45 y46 y47 y48 y49 y50 y51 y52 y53 y54 y55 y56 y57 y58 y59 y60 y61 y62 y63 y64 y65 y66 y67 y68 y69 y70 y71 y82 y83 y84 y85 y86
    have g := w.g
    have h1 := (w.same b1 (.inl o1)).trans hb1
    have h6 := (w.same b6 (.inr o6)).trans hb6
    have hx : ¬ ((j : Int) < (c.links.length : Int)) := by omega
    have f1 := F1 S w
    have f2 := F2 S w
    have hN := g.n; have hL : S.lock ≤ S.c := g.ok.1
    rw [r7_11111111010]
    simp -implicitDefEqProofs (maxSteps := 1000000) (disch := (refine id ?_; first | with_reducible assumption | ((first | with_reducible refine nat_lt_id ?_ | with_reducible refine nat_le_id ?_ | with_reducible refine nat_ne_id ?_); (first | (simp +arith only [new_c, new_lock, upd_c, upd_lock, relock_c, relock_lock]; done) | fail)) | ((fail_if_success (with_reducible apply isT_of)); (fail_if_success (first | with_reducible refine nat_lt_id ?_ | with_reducible refine nat_le_id ?_ | with_reducible refine nat_ne_id ?_)); first | (simp +arith only [new_c, new_lock, upd_c, upd_lock, relock_c, relock_lock]; done) | omega | (simp only [new_c, new_lock, upd_c, upd_lock, relock_c, relock_lock] <;> omega) | fail))) only [hx, h1, h6, f1, f2, k7_11111111010_6, ↓bindV_some, ↓bindS_some, ↓bindT_some, ↓bindO_some, ↓condB_true, ↓condB_false, bindV_some, bindS_some, bindT_some, bindO_some, wrap64, ↓condK_B, bin_add, bin_lss, cell_at, cells_at, cellOf_row, cellsOf_row, nth_zero, nth_succ, aggOf_some, eq_self, decide_true, decide_false, Nat.zero_add, List.length_cons, List.length_nil, List.drop_zero, List.take_succ_cons, List.take_zero, Nat.reduceAdd, Nat.reduceSub, Nat.reduceMul, Nat.reduceLeDiff, Nat.reduceLT, Nat.reduceEqDiff, Int.reduceLE, Int.reduceLT, Int.reduceAdd, Int.reduceNeg, Int.reduceEq, Int.reduceSub, Int.reduceMul, Int.reduceToNat, Int.toNat_natCast, ↓reduceIte, Nat.le_refl, reduceCtorEq, call_11, call_23, st_2, ld_24, ix_24, fa_26_7, ld_26, fa_47_2]
    exact ⟨_, rfl, rfl⟩
  | succ m ih =>
    intro j hmj S w hs7 y0 y1 y3 y4 y7 y8 y9 y11 y12 y13 y14 y15 y16 y17 y18 y19 y20 y21 y22 y23 y24 y25 y26 y27 y28 y29 y30 y31 y32 y33 y34 y35 y36 y37 y38 y39 y40 y41 y42 y43 y44 y45 y46 y47 y48 y49 y50 y51 y52 y53 y54 y55 y56 y57 y58 y59 y60 y61 y62 y63 y64 y65 y66 y67 y68 y69 y70 y71 y82 y83 y84 y85 y86
    have g := w.g
    have h4 := (w.same b4 (.inr o4)).trans hb4
    have hx : (j : Int) < (c.links.length : Int) := by omega
    have e2 : IntKind.i64.wrap ((j : Int) + 1) = ((j + 1 : Nat) : Int) := by rw [wrap64 (by omega) (by omega)]; omega
    obtain ⟨b, cc, S', e, ep, w', _, hsh⟩ := w.put hl (by omega) (Nat.le_refl _) hs7 (o := j * 4 + 2) (by omega)
    have eA : qd.al = some ⟨b, 0, none⟩ := by injection e
    have ih := ih (j + 1) (by omega) S' w' (hsh _ _ _ _ _ hs7)
    have hN := g.n; have hL : S.lock ≤ S.c := g.ok.1
    rw [r7_11111111010]
    simp -implicitDefEqProofs (maxSteps := 1000000) (disch := (refine id ?_; first | with_reducible assumption | ((first | with_reducible refine nat_lt_id ?_ | with_reducible refine nat_le_id ?_ | with_reducible refine nat_ne_id ?_); (first | (simp +arith only [new_c, new_lock, upd_c, upd_lock, relock_c, relock_lock]; done) | fail)) | ((fail_if_success (with_reducible apply isT_of)); (fail_if_success (first | with_reducible refine nat_lt_id ?_ | with_reducible refine nat_le_id ?_ | with_reducible refine nat_ne_id ?_)); first | (simp +arith only [new_c, new_lock, upd_c, upd_lock, relock_c, relock_lock]; done) | omega | (simp only [new_c, new_lock, upd_c, upd_lock, relock_c, relock_lock] <;> omega) | fail))) only [hx, h4, e2, eA, ep, ↓bindV_some, ↓bindS_some, ↓bindT_some, ↓bindO_some, ↓condB_true, ↓condB_false, bindV_some, bindS_some, bindT_some, bindO_some, wrap64, ↓condK_B, bin_add, bin_lss, cell_at, cells_at, cellOf_row, cellsOf_row, nth_zero, nth_succ, aggOf_some, eq_self, decide_true, decide_false, Nat.zero_add, List.length_cons, List.length_nil, List.drop_zero, List.take_succ_cons, List.take_zero, Nat.reduceAdd, Nat.reduceSub, Nat.reduceMul, Nat.reduceLeDiff, Nat.reduceLT, Nat.reduceEqDiff, Int.reduceLE, Int.reduceLT, Int.reduceAdd, Int.reduceNeg, Int.reduceEq, Int.reduceSub, Int.reduceMul, Int.reduceToNat, Int.toNat_natCast, ↓reduceIte, Nat.le_refl, reduceCtorEq, call_11, call_23, st_2, ld_24, ix_24, fa_26_7, ld_26, fa_47_2]
    exact ih _ _ _ _ _ _ _ _ _ _ _ _ _ _ _ _ _ _ _ _ _ _ _ _ _ _ _ _ _ _ _ _ _ _ _ _ _ _ _ _ _ _ _ _ _ _ _ _ _ _ _ _ _ _ _ _ _ _ _ _ _ _ _ _ _ _ _ _ _ _ _ _ _
set_option maxRecDepth 100000 in
set_option maxHeartbeats 1000000 in
theorem centries_loop (S1 : St) (c : Cfg) (qa qd qw : Pl) (hB : CfgB c) {b1 b4 b6 lo m1 m2 m3 hi : Nat} (z1 : lo ≤ m1) (z2 : m1 ≤ m2) (z3 : m2 ≤ m3) (z4 : m3 ≤ hi) (zc : hi ≤ S1.c) (hl : S1.lock ≤ lo) (hWl : W.heap.size ≤ lo) (hw1 : W.heap.size ≤ b1) (o1 : b1 < lo) (o4 : hi ≤ b4) (o6 : hi ≤ b6) (hb1 : S1.heap b1 = .row (ccs c qa) 0) (hb4 : S1.heap b4 = .row (ccs c qd) 0) (hb6 : S1.heap b6 = .row (ccs c qw) 0)
    (F1 : ∀ S, Wr W S1 lo hi S → cw W 11 #[cvl c qa] S = some (i64 (checkN c), S)) (F2 : ∀ S, Wr W S1 lo hi S → cw W 23 #[cvl c qa, cvl c qw] S = some (.bool true, S)) (m : Nat) : ∀ (j : Nat) (hmj : m + j = c.entries.length) (S : St) (w : Wr W S1 lo hi S) (hs7 : Shp 4 m3 hi S (.slice qd.al c.links.length qd.cl) c.links.length) (hs6 : Shp 4 m2 m3 S (.slice qd.ae c.entries.length qd.ce) c.entries.length) (y0 y1 y3 y4 y7 y8 y10 y11 y12 y13 y14 y15 y16 y17 y18 y19 y20 y21 y22 y23 y24 y25 y26 y27 y28 y29 y30 y31 y32 y33 y34 y35 y36 y37 y38 y39 y40 y41 y42 y43 y44 y45 y46 y47 y48 y49 y50 y51 y52 y53 y54 y55 y56 y57 y58 y59 y70 y71 y72 y73 y74 y75 y76 y77 y78 y79 y80 y81 y82 y83 y84 y85 y86 : Value), Wp (bindO (l7_1111111010 W y0 y1 (.pointer (some ⟨b1, 0, none⟩)) y3 y4 (.pointer (some ⟨b4, 0, none⟩)) (.pointer (some ⟨b6, 0, none⟩)) y7 y8 y10 y11 y12 y13 y14 y15 y16 y17 y18 y19 y20 y21 y22 y23 y24 y25 y26 y27 y28 y29 y30 y31 y32 y33 y34 y35 y36 y37 y38 y39 y40 y41 y42 y43 y44 y45 y46 y47 y48 y49 y50 y51 y52 y53 y54 y55 y56 y57 y58 y59 (.int .i64 (c.entries.length : Int)) (.int .i64 (j : Int)) y70 y71 y72 y73 y74 y75 y76 y77 y78 y79 y80 y81 y82 y83 y84 y85 y86 S) (kc W c7 [1, 1, 1, 1, 1, 1, 1, 0, 1, 0] f7)) (fun r => r.1 = .bool true) := by
  have hw4 : W.heap.size ≤ b4 := by omega
  have hBl := hB.le
  induction m with
  | zero =>
    intro j hmj S w hs7 hs6 y0 y1 y3 y4 y7 y8 y10 y11 y12 y13 y14 y15 y16 y17 y18 y19 y20 y21 y22 y23 y24 y25 y26 y27 y28 y29 y30 y31 y32 y33 y34 y35 y36 y37 y38 y39 y40 y41 y42 y43 y44 y45 y46 y47 y48 y49 y50 y51 y52 y53 y54 y55 y56 y57 y58 y59 y70 y71 y72 y73 y74 y75 y76 y77 y78 y79 y80 y81 y82 y83 y84 y85 y86
    have g := w.g
    have h4 := (w.same b4 (.inr o4)).trans hb4
    have hx : ¬ ((j : Int) < (c.entries.length : Int)) := by omega
    have lp := fun y0 y1 y3 y4 y7 y8 y9 y11 y12 y13 y14 y15 y16 y17 y18 y19 y20 y21 y22 y23 y24 y25 y26 y27 y28 y29 y30 y31 y32 y33 y34 y35 y36 y37 y38 y39 y40 y41 y42 y43 y44 y45 y46 y47 y48 y49 y50 y51 y52 y53 y54 y55 y56 y57 y58 y59 y60 y61 y62 y63 y64 y65 y66 y67 y68 y69 y70 y71 y82 y83 y84 y85 y86 => clinks_loop S1 c qa qd qw hB z1 z2 z3 z4 zc hl hWl hw1 o1 o4 o6 hb1 hb4 hb6 F1 F2 c.links.length 0 rfl S w hs7 y0 y1 y3 y4 y7 y8 y9 y11 y12 y13 y14 y15 y16 y17 y18 y19 y20 y21 y22 y23 y24 y25 y26 y27 y28 y29 y30 y31 y32 y33 y34 y35 y36 y37 y38 y39 y40 y41 y42 y43 y44 y45 y46 y47 y48 y49 y50 y51 y52 y53 y54 y55 y56 y57 y58 y59 y60 y61 y62 y63 y64 y65 y66 y67 y68 y69 y70 y71 y82 y83 y84 y85 y86
    rw [cast0] at lp
    have hN := g.n; have hL : S.lock ≤ S.c := g.ok.1
    rw [r7_1111111010]
    simp -implicitDefEqProofs (maxSteps := 1000000) (disch := (refine id ?_; first | with_reducible assumption | ((fail_if_success (with_reducible apply isT_of)); (fail_if_success (first | with_reducible refine nat_lt_id ?_ | with_reducible refine nat_le_id ?_ | with_reducible refine nat_ne_id ?_)); first | omega | (simp only [new_c, new_lock, upd_c, upd_lock, relock_c, relock_lock] <;> omega) | fail))) only [hx, h4, k7_1111111010_4, ↓bindV_some, ↓bindT_some, ↓bindO_some, ↓condB_true, ↓condB_false, bindV_some, bindT_some, bindO_some, wrap64, ↓condK_B, bin_add, bin_lss, cell_at, cellOf_row, nth_zero, nth_succ, cast0, eq_self, decide_true, decide_false, Nat.zero_add, Nat.reduceAdd, Nat.reduceSub, Nat.reduceMul, Nat.reduceLeDiff, Nat.reduceLT, Nat.reduceEqDiff, Int.reduceLE, Int.reduceLT, Int.reduceAdd, Int.reduceNeg, Int.reduceEq, Int.reduceSub, Int.reduceMul, Int.reduceToNat, Int.toNat_natCast, ↓reduceIte, reduceCtorEq, st_3, ld_23, ix_23, ld_24, len_24, fa_26_6, fa_26_7, fa_32_3]
    exact lp _ _ _ _ _ _ _ _ _ _ _ _ _ _ _ _ _ _ _ _ _ _ _ _ _ _ _ _ _ _ _ _ _ _ _ _ _ _ _ _ _ _ _ _ _ _ _ _ _ _ _ _ _ _ _ _ _ _ _ _ _ _ _ _ _ _ _ _ _ _ _ _ _
  | succ m ih =>
    intro j hmj S w hs7 hs6 y0 y1 y3 y4 y7 y8 y10 y11 y12 y13 y14 y15 y16 y17 y18 y19 y20 y21 y22 y23 y24 y25 y26 y27 y28 y29 y30 y31 y32 y33 y34 y35 y36 y37 y38 y39 y40 y41 y42 y43 y44 y45 y46 y47 y48 y49 y50 y51 y52 y53 y54 y55 y56 y57 y58 y59 y70 y71 y72 y73 y74 y75 y76 y77 y78 y79 y80 y81 y82 y83 y84 y85 y86
    have g := w.g
    have h4 := (w.same b4 (.inr o4)).trans hb4
    have hx : (j : Int) < (c.entries.length : Int) := by omega
    have e2 : IntKind.i64.wrap ((j : Int) + 1) = ((j + 1 : Nat) : Int) := by rw [wrap64 (by omega) (by omega)]; omega
    obtain ⟨b, cc, S', e, ep, w', _, hsh⟩ := w.put hl (by omega) (by omega) hs6 (o := j * 4 + 3) (by omega)
    have eA : qd.ae = some ⟨b, 0, none⟩ := by injection e
    have ih := ih (j + 1) (by omega) S' w' (hsh _ _ _ _ _ hs7) (hsh _ _ _ _ _ hs6)
    have hN := g.n; have hL : S.lock ≤ S.c := g.ok.1
    rw [r7_1111111010]
    simp -implicitDefEqProofs (maxSteps := 1000000) (disch := (refine id ?_; first | with_reducible assumption | ((fail_if_success (with_reducible apply isT_of)); (fail_if_success (first | with_reducible refine nat_lt_id ?_ | with_reducible refine nat_le_id ?_ | with_reducible refine nat_ne_id ?_)); first | omega | (simp only [new_c, new_lock, upd_c, upd_lock, relock_c, relock_lock] <;> omega) | fail))) only [hx, h4, e2, eA, ep, ↓bindV_some, ↓bindT_some, ↓bindO_some, ↓condB_true, ↓condB_false, bindV_some, bindT_some, bindO_some, wrap64, ↓condK_B, bin_add, bin_lss, cell_at, cellOf_row, nth_zero, nth_succ, cast0, eq_self, decide_true, decide_false, Nat.zero_add, Nat.reduceAdd, Nat.reduceSub, Nat.reduceMul, Nat.reduceLeDiff, Nat.reduceLT, Nat.reduceEqDiff, Int.reduceLE, Int.reduceLT, Int.reduceAdd, Int.reduceNeg, Int.reduceEq, Int.reduceSub, Int.reduceMul, Int.reduceToNat, Int.toNat_natCast, ↓reduceIte, reduceCtorEq, st_3, ld_23, ix_23, ld_24, len_24, fa_26_6, fa_26_7, fa_32_3]
    exact ih _ _ _ _ _ _ _ _ _ _ _ _ _ _ _ _ _ _ _ _ _ _ _ _ _ _ _ _ _ _ _ _ _ _ _ _ _ _ _ _ _ _ _ _ _ _ _ _ _ _ _ _ _ _ _ _ _ _ _ _ _ _ _ _ _ _ _ _ _ _ _ _ _
set_option maxRecDepth 100000 in
set_option maxHeartbeats 1000000 in
theorem crow_loop (S1 : St) (c : Cfg) (qa qd qw : Pl) (hB : CfgB c) {b1 b4 b6 lo m1 m2 m3 hi : Nat} (z1 : lo ≤ m1) (z2 : m1 ≤ m2) (z3 : m2 ≤ m3) (z4 : m3 ≤ hi) (zc : hi ≤ S1.c) (hl : S1.lock ≤ lo) (hWl : W.heap.size ≤ lo) (hw1 : W.heap.size ≤ b1) (o1 : b1 < lo) (o4 : hi ≤ b4) (o6 : hi ≤ b6) (hb1 : S1.heap b1 = .row (ccs c qa) 0) (hb4 : S1.heap b4 = .row (ccs c qd) 0) (hb6 : S1.heap b6 = .row (ccs c qw) 0)
    (F1 : ∀ S, Wr W S1 lo hi S → cw W 11 #[cvl c qa] S = some (i64 (checkN c), S)) (F2 : ∀ S, Wr W S1 lo hi S → cw W 23 #[cvl c qa, cvl c qw] S = some (.bool true, S)) (svs : List Sv) (hsv : svs.length = c.delays.length) (hbn : ∀ s ∈ svs, s.n * 8 ≤ 140737488351232) (bd kd : Nat) (hbd : 0 < c.delays.length → lo ≤ bd ∧ bd < m1) (eD : 0 < c.delays.length → qd.ad = some ⟨bd, 0, none⟩) (j : Nat) (hj : j < c.delays.length) (s : Sv) (hsm : s ∈ svs) (hsj : (VT.fl svs)[j]? = some (.slice s.a s.n s.c)) (nr : Nat) (hnr : nr = s.n)
    (HO : ∀ (S : St) (w : Wr W S1 lo hi S) (hs7 : Shp 4 m3 hi S (.slice qd.al c.links.length qd.cl) c.links.length) (hs6 : Shp 4 m2 m3 S (.slice qd.ae c.entries.length qd.ce) c.entries.length) (hs5 : ∀ s ∈ svs, Shp 1 m1 m2 S (.slice s.a s.n s.c) s.n) (hD : 0 < c.delays.length → S.heap bd = .row (VT.fl svs) kd) (y0 y1 y3 y4 y9 y10 y11 y12 y13 y14 y15 y16 y17 y18 y19 y20 y21 y22 y23 y24 y25 y26 y27 y28 y29 y30 y31 y32 y33 y34 y35 y58 y59 y60 y61 y62 y63 y64 y65 y66 y67 y68 y69 y70 y71 y72 y73 y74 y75 y76 y77 y78 y79 y80 y81 y82 y83 y84 y85 y86 : Value), Wp (bindO (l7_111111010 W y0 y1 (.pointer (some ⟨b1, 0, none⟩)) y3 y4 (.pointer (some ⟨b4, 0, none⟩)) (.pointer (some ⟨b6, 0, none⟩)) y9 y10 y11 y12 y13 y14 y15 y16 y17 y18 y19 y20 y21 y22 y23 y24 y25 y26 y27 y28 y29 y30 y31 y32 y33 y34 y35 (.int .i64 (c.delays.length : Int)) (.int .i64 ((j + 1 : Nat) : Int)) y58 y59 y60 y61 y62 y63 y64 y65 y66 y67 y68 y69 y70 y71 y72 y73 y74 y75 y76 y77 y78 y79 y80 y81 y82 y83 y84 y85 y86 S) (kc W c7 [1, 1, 1, 1, 1, 1, 0, 1, 0] f7)) (fun r => r.1 = .bool true)) (m : Nat) : ∀ (k : Nat) (hmk : m + k = s.n) (S : St) (w : Wr W S1 lo hi S) (hs7 : Shp 4 m3 hi S (.slice qd.al c.links.length qd.cl) c.links.length) (hs6 : Shp 4 m2 m3 S (.slice qd.ae c.entries.length qd.ce) c.entries.length) (hs5 : ∀ s ∈ svs, Shp 1 m1 m2 S (.slice s.a s.n s.c) s.n) (hD : 0 < c.delays.length → S.heap bd = .row (VT.fl svs) kd) (y0 y1 y3 y4 y9 y10 y11 y12 y13 y14 y15 y16 y17 y18 y19 y20 y21 y22 y23 y24 y25 y26 y27 y28 y29 y30 y31 y32 y33 y34 y35 y38 y39 y40 y41 y42 y43 y44 y57 y58 y59 y60 y61 y62 y63 y64 y65 y66 y67 y68 y69 y70 y71 y72 y73 y74 y75 y76 y77 y78 y79 y80 y81 y82 y83 y84 y85 y86 : Value), Wp (bindO (l7_11111101001100110 W y0 y1 (.pointer (some ⟨b1, 0, none⟩)) y3 y4 (.pointer (some ⟨b4, 0, none⟩)) (.pointer (some ⟨b6, 0, none⟩)) (.int .i64 (j : Int)) y9 y10 y11 y12 y13 y14 y15 y16 y17 y18 y19 y20 y21 y22 y23 y24 y25 y26 y27 y28 y29 y30 y31 y32 y33 y34 y35 (.int .i64 (c.delays.length : Int)) (.int .i64 (j : Int)) y38 y39 y40 y41 y42 y43 y44 (.int .i64 (nr : Int)) (.int .i64 (k : Int)) y57 y58 y59 y60 y61 y62 y63 y64 y65 y66 y67 y68 y69 y70 y71 y72 y73 y74 y75 y76 y77 y78 y79 y80 y81 y82 y83 y84 y85 y86 S) (fun e A S => bindO (rk W c7_111111010 [1, 1, 0, 0, 1, 1, 0] e A S) (kc W c7 [1, 1, 1, 1, 1, 1, 0, 1, 0] f7))) (fun r => r.1 = .bool true) := by
  have hw4 : W.heap.size ≤ b4 := by omega
  have hbd := hbd (by omega)
  have hwd : W.heap.size ≤ bd := by omega
  have hBl := hB.ld
  have hbs := hbn s hsm
  have eA := eD (by omega)
  subst hnr
  have e2j : IntKind.i64.wrap ((j : Int) + 1) = ((j + 1 : Nat) : Int) := by rw [wrap64 (by omega) (by omega)]; omega
  have hxj : (j : Int) < (c.delays.length : Int) := by omega
  induction m with
  | zero =>
    intro k hmk S w hs7 hs6 hs5 hD y0 y1 y3 y4 y9 y10 y11 y12 y13 y14 y15 y16 y17 y18 y19 y20 y21 y22 y23 y24 y25 y26 y27 y28 y29 y30 y31 y32 y33 y34 y35 y38 y39 y40 y41 y42 y43 y44 y57 y58 y59 y60 y61 y62 y63 y64 y65 y66 y67 y68 y69 y70 y71 y72 y73 y74 y75 y76 y77 y78 y79 y80 y81 y82 y83 y84 y85 y86
    have g := w.g
    have h4 := (w.same b4 (.inr o4)).trans hb4
    have hx : ¬ ((k : Int) < (s.n : Int)) := by omega
    have hN := g.n; have hL : S.lock ≤ S.c := g.ok.1
    rw [r7_11111101001100110]
    simp -implicitDefEqProofs (maxSteps := 1000000) (disch := (refine id ?_; first | with_reducible assumption | ((fail_if_success (with_reducible apply isT_of)); (fail_if_success (first | with_reducible refine nat_lt_id ?_ | with_reducible refine nat_le_id ?_ | with_reducible refine nat_ne_id ?_)); first | omega | (simp only [new_c, new_lock, upd_c, upd_lock, relock_c, relock_lock] <;> omega) | fail))) only [hx, e2j, k7_11111101001100110_2, ↓bindV_some, ↓bindT_some, ↓bindO_some, ↓condB_true, ↓condB_false, bindV_some, bindT_some, bindO_some, wrap64, ↓condK_B, bin_add, bin_lss, cell_at, cellOf_row, nth_zero, nth_succ, eq_self, decide_true, decide_false, Nat.zero_add, Nat.reduceAdd, Nat.reduceSub, Nat.reduceMul, Nat.reduceLeDiff, Nat.reduceLT, Nat.reduceEqDiff, Int.reduceLE, Int.reduceLT, Int.reduceAdd, Int.reduceNeg, Int.reduceEq, Int.reduceSub, Int.reduceMul, Int.reduceToNat, Int.toNat_natCast, Nat.mul_one, ↓reduceIte, reduceCtorEq, st_2, ld_22, ix_22, fa_26_5, ld_45, ix_45]
    exact HO S w hs7 hs6 hs5 hD _ _ _ _ _ _ _ _ _ _ _ _ _ _ _ _ _ _ _ _ _ _ _ _ _ _ _ _ _ _ _ _ _ _ _ _ _ _ _ _ _ _ _ _ _ _ _ _ _ _ _ _ _ _ _ _ _ _ _ _
  | succ m ih =>
    intro k hmk S w hs7 hs6 hs5 hD y0 y1 y3 y4 y9 y10 y11 y12 y13 y14 y15 y16 y17 y18 y19 y20 y21 y22 y23 y24 y25 y26 y27 y28 y29 y30 y31 y32 y33 y34 y35 y38 y39 y40 y41 y42 y43 y44 y57 y58 y59 y60 y61 y62 y63 y64 y65 y66 y67 y68 y69 y70 y71 y72 y73 y74 y75 y76 y77 y78 y79 y80 y81 y82 y83 y84 y85 y86
    have g := w.g
    have h4 := (w.same b4 (.inr o4)).trans hb4
    have hx : (k : Int) < (s.n : Int) := by omega
    have e2 : IntKind.i64.wrap ((k : Int) + 1) = ((k + 1 : Nat) : Int) := by rw [wrap64 (by omega) (by omega)]; omega
    have hd0 := hD (by omega)
    have e5 : S.cell W ⟨bd, j, none⟩ = some (.slice s.a s.n s.c) := by rw [cell_at hwd, hd0, cellOf_row, nth_eq]; exact hsj
    obtain ⟨b, cc, S', e, ep, w', hlo, hsh⟩ := w.put hl (by omega) (by omega) (hs5 s hsm) (o := k) (by omega)
    have eX : s.a = some ⟨b, 0, none⟩ := by injection e
    have ih := ih (k + 1) (by omega) S' w' (hsh _ _ _ _ _ hs7) (hsh _ _ _ _ _ hs6) (fun t ht => hsh _ _ _ _ _ (hs5 t ht)) (fun _ => (hlo bd hbd.2).trans hd0)
    have hN := g.n; have hL : S.lock ≤ S.c := g.ok.1
    rw [r7_11111101001100110]
    simp -implicitDefEqProofs (maxSteps := 1000000) (disch := (refine id ?_; first | with_reducible assumption | ((fail_if_success (with_reducible apply isT_of)); (fail_if_success (first | with_reducible refine nat_lt_id ?_ | with_reducible refine nat_le_id ?_ | with_reducible refine nat_ne_id ?_)); first | omega | (simp only [new_c, new_lock, upd_c, upd_lock, relock_c, relock_lock] <;> omega) | fail))) only [hx, hxj, h4, e2, eA, e5, eX, ep, ↓bindV_some, ↓bindT_some, ↓bindO_some, ↓condB_true, ↓condB_false, bindV_some, bindT_some, bindO_some, wrap64, ↓condK_B, bin_add, bin_lss, cell_at, cellOf_row, nth_zero, nth_succ, eq_self, decide_true, decide_false, Nat.zero_add, Nat.reduceAdd, Nat.reduceSub, Nat.reduceMul, Nat.reduceLeDiff, Nat.reduceLT, Nat.reduceEqDiff, Int.reduceLE, Int.reduceLT, Int.reduceAdd, Int.reduceNeg, Int.reduceEq, Int.reduceSub, Int.reduceMul, Int.reduceToNat, Int.toNat_natCast, Nat.mul_one, ↓reduceIte, reduceCtorEq, st_2, ld_22, ix_22, fa_26_5, ld_45, ix_45]
    exact ih _ _ _ _ _ _ _ _ _ _ _ _ _ _ _ _ _ _ _ _ _ _ _ _ _ _ _ _ _ _ _ _ _ _ _ _ _ _ _ _ _ _ _ _ _ _ _ _ _ _ _ _ _ _ _ _ _ _ _ _ _ _ _ _ _ _ _ _
set_option maxRecDepth 100000 in
set_option maxHeartbeats 1000000 in
theorem crows_loop (S1 : St) (c : Cfg) (qa qd qw : Pl) (hB : CfgB c) {b1 b4 b6 lo m1 m2 m3 hi : Nat} (z1 : lo ≤ m1) (z2 : m1 ≤ m2) (z3 : m2 ≤ m3) (z4 : m3 ≤ hi) (zc : hi ≤ S1.c) (hl : S1.lock ≤ lo) (hWl : W.heap.size ≤ lo) (hw1 : W.heap.size ≤ b1) (o1 : b1 < lo) (o4 : hi ≤ b4) (o6 : hi ≤ b6) (hb1 : S1.heap b1 = .row (ccs c qa) 0) (hb4 : S1.heap b4 = .row (ccs c qd) 0) (hb6 : S1.heap b6 = .row (ccs c qw) 0)
    (F1 : ∀ S, Wr W S1 lo hi S → cw W 11 #[cvl c qa] S = some (i64 (checkN c), S)) (F2 : ∀ S, Wr W S1 lo hi S → cw W 23 #[cvl c qa, cvl c qw] S = some (.bool true, S)) (svs : List Sv) (hsv : svs.length = c.delays.length) (hbn : ∀ s ∈ svs, s.n * 8 ≤ 140737488351232) (bd kd : Nat) (hbd : 0 < c.delays.length → lo ≤ bd ∧ bd < m1) (eD : 0 < c.delays.length → qd.ad = some ⟨bd, 0, none⟩) (m : Nat) : ∀ (j : Nat) (hmj : m + j = c.delays.length) (S : St) (w : Wr W S1 lo hi S) (hs7 : Shp 4 m3 hi S (.slice qd.al c.links.length qd.cl) c.links.length) (hs6 : Shp 4 m2 m3 S (.slice qd.ae c.entries.length qd.ce) c.entries.length) (hs5 : ∀ s ∈ svs, Shp 1 m1 m2 S (.slice s.a s.n s.c) s.n) (hD : 0 < c.delays.length → S.heap bd = .row (VT.fl svs) kd) (y0 y1 y3 y4 y9 y10 y11 y12 y13 y14 y15 y16 y17 y18 y19 y20 y21 y22 y23 y24 y25 y26 y27 y28 y29 y30 y31 y32 y33 y34 y35 y58 y59 y60 y61 y62 y63 y64 y65 y66 y67 y68 y69 y70 y71 y72 y73 y74 y75 y76 y77 y78 y79 y80 y81 y82 y83 y84 y85 y86 : Value), Wp (bindO (l7_111111010 W y0 y1 (.pointer (some ⟨b1, 0, none⟩)) y3 y4 (.pointer (some ⟨b4, 0, none⟩)) (.pointer (some ⟨b6, 0, none⟩)) y9 y10 y11 y12 y13 y14 y15 y16 y17 y18 y19 y20 y21 y22 y23 y24 y25 y26 y27 y28 y29 y30 y31 y32 y33 y34 y35 (.int .i64 (c.delays.length : Int)) (.int .i64 (j : Int)) y58 y59 y60 y61 y62 y63 y64 y65 y66 y67 y68 y69 y70 y71 y72 y73 y74 y75 y76 y77 y78 y79 y80 y81 y82 y83 y84 y85 y86 S) (kc W c7 [1, 1, 1, 1, 1, 1, 0, 1, 0] f7)) (fun r => r.1 = .bool true) := by
  have hw4 : W.heap.size ≤ b4 := by omega
  have hBl := hB.ld
  induction m with
  | zero =>
    intro j hmj S w hs7 hs6 hs5 hD y0 y1 y3 y4 y9 y10 y11 y12 y13 y14 y15 y16 y17 y18 y19 y20 y21 y22 y23 y24 y25 y26 y27 y28 y29 y30 y31 y32 y33 y34 y35 y58 y59 y60 y61 y62 y63 y64 y65 y66 y67 y68 y69 y70 y71 y72 y73 y74 y75 y76 y77 y78 y79 y80 y81 y82 y83 y84 y85 y86
    have g := w.g
    have h4 := (w.same b4 (.inr o4)).trans hb4
    have hx : ¬ ((j : Int) < (c.delays.length : Int)) := by omega
    have lp := fun y0 y1 y3 y4 y7 y8 y10 y11 y12 y13 y14 y15 y16 y17 y18 y19 y20 y21 y22 y23 y24 y25 y26 y27 y28 y29 y30 y31 y32 y33 y34 y35 y36 y37 y38 y39 y40 y41 y42 y43 y44 y45 y46 y47 y48 y49 y50 y51 y52 y53 y54 y55 y56 y57 y58 y59 y70 y71 y72 y73 y74 y75 y76 y77 y78 y79 y80 y81 y82 y83 y84 y85 y86 => centries_loop S1 c qa qd qw hB z1 z2 z3 z4 zc hl hWl hw1 o1 o4 o6 hb1 hb4 hb6 F1 F2 c.entries.length 0 rfl S w hs7 hs6 y0 y1 y3 y4 y7 y8 y10 y11 y12 y13 y14 y15 y16 y17 y18 y19 y20 y21 y22 y23 y24 y25 y26 y27 y28 y29 y30 y31 y32 y33 y34 y35 y36 y37 y38 y39 y40 y41 y42 y43 y44 y45 y46 y47 y48 y49 y50 y51 y52 y53 y54 y55 y56 y57 y58 y59 y70 y71 y72 y73 y74 y75 y76 y77 y78 y79 y80 y81 y82 y83 y84 y85 y86
    rw [cast0] at lp
    have hN := g.n; have hL : S.lock ≤ S.c := g.ok.1
    rw [r7_111111010]
    simp -implicitDefEqProofs (maxSteps := 1000000) (disch := (refine id ?_; first | with_reducible assumption | ((fail_if_success (with_reducible apply isT_of)); (fail_if_success (first | with_reducible refine nat_lt_id ?_ | with_reducible refine nat_le_id ?_ | with_reducible refine nat_ne_id ?_)); first | omega | (simp only [new_c, new_lock, upd_c, upd_lock, relock_c, relock_lock] <;> omega) | fail))) only [hx, h4, k7_111111010_0, ↓bindV_some, ↓bindO_some, ↓condB_true, ↓condB_false, bindV_some, bindO_some, ↓condK_B, bin_lss, cell_at, cellOf_row, nth_zero, nth_succ, cast0, eq_self, bindO_bindO, decide_true, decide_false, Nat.zero_add, Nat.add_zero, Nat.reduceAdd, Nat.reduceSub, Nat.reduceMul, Nat.reduceLeDiff, Nat.reduceLT, Nat.reduceEqDiff, Int.reduceLE, Int.reduceLT, Int.reduceAdd, Int.reduceNeg, Int.reduceEq, Int.reduceSub, Int.reduceMul, Int.reduceToNat, Int.toNat_natCast, Nat.mul_one, ↓reduceIte, reduceCtorEq, ld_22, ix_22, ld_23, len_23, fa_26_5, fa_26_6, ld_45, len_45]
    exact lp _ _ _ _ _ _ _ _ _ _ _ _ _ _ _ _ _ _ _ _ _ _ _ _ _ _ _ _ _ _ _ _ _ _ _ _ _ _ _ _ _ _ _ _ _ _ _ _ _ _ _ _ _ _ _ _ _ _ _ _ _ _ _ _ _ _ _ _ _ _ _ _ _
  | succ m ih =>
    intro j hmj S w hs7 hs6 hs5 hD y0 y1 y3 y4 y9 y10 y11 y12 y13 y14 y15 y16 y17 y18 y19 y20 y21 y22 y23 y24 y25 y26 y27 y28 y29 y30 y31 y32 y33 y34 y35 y58 y59 y60 y61 y62 y63 y64 y65 y66 y67 y68 y69 y70 y71 y72 y73 y74 y75 y76 y77 y78 y79 y80 y81 y82 y83 y84 y85 y86
    have g := w.g
    have h4 := (w.same b4 (.inr o4)).trans hb4
    have hj : j < c.delays.length := by omega
    have hjs : j < svs.length := by omega
    have hx : (j : Int) < (c.delays.length : Int) := by omega
    have hbd' := hbd (by omega)
    have hwd : W.heap.size ≤ bd := by omega
    have hd0 := hD (by omega)
    have eA := eD (by omega)
    have hsj : (VT.fl svs)[j]? = some (.slice svs[j].a svs[j].n svs[j].c) := by
      have := fl_nth (T := VT) svs j 0 hjs (by decide)
      rw [show VT.k = 1 from rfl, Nat.mul_one, Nat.add_zero] at this
      rw [this]; rfl
    have e5 : S.cell W ⟨bd, j, none⟩ = some (.slice svs[j].a svs[j].n svs[j].c) := by rw [cell_at hwd, hd0, cellOf_row, nth_eq]; exact hsj
    have rl := crow_loop S1 c qa qd qw hB z1 z2 z3 z4 zc hl hWl hw1 o1 o4 o6 hb1 hb4 hb6 F1 F2 svs hsv hbn bd kd hbd eD j hj svs[j] (List.getElem_mem hjs) hsj svs[j].n rfl (ih (j + 1) (by omega)) svs[j].n 0 rfl S w hs7 hs6 hs5 hD
    rw [cast0] at rl
    generalize svs[j] = s at *
    have hN := g.n; have hL : S.lock ≤ S.c := g.ok.1
    rw [r7_111111010]
    simp -implicitDefEqProofs (maxSteps := 1000000) (disch := (refine id ?_; first | with_reducible assumption | ((fail_if_success (with_reducible apply isT_of)); (fail_if_success (first | with_reducible refine nat_lt_id ?_ | with_reducible refine nat_le_id ?_ | with_reducible refine nat_ne_id ?_)); first | omega | (simp only [new_c, new_lock, upd_c, upd_lock, relock_c, relock_lock] <;> omega) | fail))) only [hx, h4, eA, e5, ↓bindV_some, ↓bindO_some, ↓condB_true, ↓condB_false, bindV_some, bindO_some, ↓condK_B, bin_lss, cell_at, cellOf_row, nth_zero, nth_succ, cast0, eq_self, bindO_bindO, decide_true, decide_false, Nat.zero_add, Nat.add_zero, Nat.reduceAdd, Nat.reduceSub, Nat.reduceMul, Nat.reduceLeDiff, Nat.reduceLT, Nat.reduceEqDiff, Int.reduceLE, Int.reduceLT, Int.reduceAdd, Int.reduceNeg, Int.reduceEq, Int.reduceSub, Int.reduceMul, Int.reduceToNat, Int.toNat_natCast, Nat.mul_one, ↓reduceIte, reduceCtorEq, ld_22, ix_22, ld_23, len_23, fa_26_5, fa_26_6, ld_45, len_45]
    exact rl _ _ _ _ _ _ _ _ _ _ _ _ _ _ _ _ _ _ _ _ _ _ _ _ _ _ _ _ _ _ _ _ _ _ _ _ _ _ _ _ _ _ _ _ _ _ _ _ _ _ _ _ _ _ _ _ _ _ _ _ _ _ _ _ _ _ _ _
end
end Go.Proofs.Ytogcdgdnjinjkaa.F
end
section
namespace Go.Proofs.Ytogcdgdnjinjkaa.F
open Go Go.Proofs.Ytogcdgdnjinjkaa.E
set_option linter.unusedVariables false
set_option linter.unusedSimpArgs false
section
variable {W : World}
theorem Rd_heap {α : Type} {T : Enc α} {S S' : St} {v : Value} {l : List α} (h : Rd T W S v l) (hc : S.c ≤ S'.c) (k : ∀ i, i ∈ blkOf v → S'.heap i = S.heap i) : Rd T W S' v l := by
  obtain ⟨h0, h | ⟨b, o, c, h1, h2, h3, h4, h5, h6, h7⟩⟩ := h
  · exact ⟨vlt1_mono hc h0, .inl h⟩
  · have e := k b (by rw [h1]; simp [blkOf])
    refine ⟨vlt1_mono hc h0, .inr ⟨b, o, c, h1, h2, h3, Nat.lt_of_lt_of_le h4 hc, by rw [fx_same e]; exact h5, fun q => by rw [fx_same e]; exact h6 q, fun j hj => ?_⟩⟩
    obtain ⟨q1, q2⟩ := h7 j hj
    exact ⟨by rw [cells_same e]; exact q1, fun i hi => by rw [cell_same e]; exact q2 i hi⟩
set_option maxRecDepth 100000 in
set_option maxHeartbeats 2000000 in
theorem copies_law {S : St} (g : Gd W S) (a : Cfg) (qa : Pl) (hA : CfgAt W S a qa) (hB : CfgB a) (hR : CfgR a) (b : Cfg) (qb : Pl) (hb : CfgAt W S b qb) (hBb : CfgB b) (hRb : CfgR b) : Wp (cw W 7 #[cvl a qa, cvl b qb] S) fun r => r.1 = .bool true := by
  rw [eq7]
  have hN := g.n; have hL : S.lock ≤ S.c := g.ok.1
  have hqa := hA.vlt
  have hqb := hb.vlt
  have g1 := g.new (o := .row (ccs a qa) 0) (objLt_mono (Nat.le_succ _) (cvl_obj hqa))
  have g2 : Gd W ((S.new (.row (ccs a qa) 0)).new (.row (ccs b qb) 0)) := g1.new (o := .row (ccs b qb) 0) (objLt_mono (Nat.le_succ _) (cvl_obj (vlt_mono (Nat.le_succ _) hqb)))
  have w2 : Low S ((S.new (.row (ccs a qa) 0)).new (.row (ccs b qb) 0)) := Low.new (Low.new (Low.rfl' S) _) _
  have a2 := hA.low w2
  have b2 := hb.low w2
  have e0 := fixed_eq g2
  have e1 : cw W 25 #[cvl a qa, cvl b qb] (((S.new (.row (ccs a qa) 0)).new (.row (ccs b qb) 0)).relock (S.c + 1 + 1)) = some (.bool (sameC a b), ((S.new (.row (ccs a qa) 0)).new (.row (ccs b qb) 0)).relock (S.c + 1 + 1)) := Equal_eq g2.relock a b qa qb (a2.relock _) (b2.relock _)
  have e2 := RSame_eq g2 a b qa qb a2 b2
  have e3 := Equal_eq g2 a a qa qa a2 a2
  have es : sameC a a = true := (sameC_iff a a).2 rfl
  rw [es] at e3
  have hb1 : ((S.new (.row (ccs a qa) 0)).new (.row (ccs b qb) 0)).heap S.c = .row (ccs a qa) 0 := by rw [new_lo _ (by simp only [new_c]; omega)]; exact new_self _
  have ene : ∀ z : Bool, (z != z) = false := fun z => by cases z <;> rfl
  have ez := ene (sameC a b)
  simp -implicitDefEqProofs (maxSteps := 1000000) (disch := (refine id ?_; first | with_reducible assumption | ((first | with_reducible refine nat_le_id ?_ ); (first | (simp +arith only [new_c, new_lock, upd_c, upd_lock, relock_c, relock_lock]; done) | (simp only [new_c, new_lock, upd_c, upd_lock, relock_c, relock_lock]; with_reducible assumption) | (refine Nat.le_trans hN ?_; simp +arith only [new_c, new_lock, upd_c, upd_lock, relock_c, relock_lock]; done) | fail)) | ((fail_if_success (with_reducible apply isT_of)); (fail_if_success (first | with_reducible refine nat_le_id ?_ )); first | (simp +arith only [new_c, new_lock, upd_c, upd_lock, relock_c, relock_lock]; done) | (refine Nat.le_trans hN ?_; simp +arith only [new_c, new_lock, upd_c, upd_lock, relock_c, relock_lock]; done) | fail))) only [e0, e1, e2, e3, ez, hb1, ↓bindV_some, ↓bindS_some, ↓bindT_some, ↓condB_false, wV_true, bindV_some, bindS_some, bindT_some, ↓gV_f, ↓condK_B, wO_val, wS_val, pick_bool, un_not, box_agg, cell_at, cells_at, put_cons, cellOf_row, cellsOf_row, putOf_row, nth_zero, nth_succ, aggOf_some, new_self, cast0, eq_self, new_upd, new_at, new_lo, new_c, new_lock, relock2, relock_id, qS_true, unlock_some, splice_nil, splice_cons, and_self, Bool.not_true, Bool.not_false, Nat.zero_add, List.length_cons, List.length_nil, List.drop_zero, List.take_succ_cons, List.take_zero, List.set_cons_zero, List.set_cons_succ, List.all_cons, List.all_nil, storable_int, storable_slice, Bool.and_self, Nat.reduceAdd, Nat.reduceSub, Nat.reduceMul, Nat.reduceLeDiff, Nat.reduceLT, Nat.reduceEqDiff, Int.reduceLE, Int.reduceLT, Int.reduceAdd, Int.reduceNeg, Int.reduceEq, Int.reduceSub, Int.reduceMul, Int.reduceToNat, ↓reduceIte, Nat.le_refl, reduceCtorEq, call_10, call_23, call_25, call_26, call_27, bneq_4, ld_22, len_22, fa_26_5, ld_26, st_26, al_26]
  refine Wp.bS ((Copy_ok g2 a qa hB a2).mono fun r hr => ?_)
  obtain ⟨v, S5⟩ := r
  obtain ⟨qd, rfl, g5, w5, hO⟩ := hr
  dsimp only at g5 w5 hO ⊢
  have hcd := hO.at g5 g2.n (Nat.le_refl _) hB
  have g6 : Gd W (S5.new (.row (ccs a qd) 0)) := g5.new (objLt_mono (Nat.le_succ _) (cvl_obj hcd.vlt))
  have w6 : Low S5 (S5.new (.row (ccs a qd) 0)) := Low.new (Low.rfl' _) _
  have hlt5 : S.c + 1 < S5.c := w5.2.1
  have hN5 := g5.n
  have hL5 := g5.ok.1
  have hb5 := (w5.2.2 S.c (by simp only [new_c]; omega)).trans hb1
  have hb6 := (w6.2.2 S.c (by omega)).trans hb5
  have a6 := (a2.low w5).low w6
  simp -implicitDefEqProofs (maxSteps := 1000000) (disch := (refine id ?_; first | with_reducible assumption | ((first | with_reducible refine nat_le_id ?_ ); (first | (simp +arith only [new_c, new_lock, upd_c, upd_lock, relock_c, relock_lock]; done) | (simp only [new_c, new_lock, upd_c, upd_lock, relock_c, relock_lock]; with_reducible assumption) | (refine Nat.le_trans hN ?_; simp +arith only [new_c, new_lock, upd_c, upd_lock, relock_c, relock_lock]; done) | fail)) | ((fail_if_success (with_reducible apply isT_of)); (fail_if_success (first | with_reducible refine nat_le_id ?_ )); first | (simp +arith only [new_c, new_lock, upd_c, upd_lock, relock_c, relock_lock]; done) | (refine Nat.le_trans hN ?_; simp +arith only [new_c, new_lock, upd_c, upd_lock, relock_c, relock_lock]; done) | fail))) only [hb6, hb5, ↓bindV_some, ↓bindS_some, ↓bindT_some, ↓condB_false, wV_true, bindV_some, bindS_some, bindT_some, ↓gV_f, ↓condK_B, wO_val, wS_val, pick_bool, un_not, box_agg, cell_at, cells_at, put_cons, cellOf_row, cellsOf_row, putOf_row, nth_zero, nth_succ, aggOf_some, new_self, cast0, eq_self, new_upd, new_at, new_lo, new_c, new_lock, relock2, relock_id, qS_true, unlock_some, splice_nil, splice_cons, and_self, Bool.not_true, Bool.not_false, Nat.zero_add, List.length_cons, List.length_nil, List.drop_zero, List.take_succ_cons, List.take_zero, List.set_cons_zero, List.set_cons_succ, List.all_cons, List.all_nil, storable_int, storable_slice, Bool.and_self, Nat.reduceAdd, Nat.reduceSub, Nat.reduceMul, Nat.reduceLeDiff, Nat.reduceLT, Nat.reduceEqDiff, Int.reduceLE, Int.reduceLT, Int.reduceAdd, Int.reduceNeg, Int.reduceEq, Int.reduceSub, Int.reduceMul, Int.reduceToNat, ↓reduceIte, Nat.le_refl, reduceCtorEq, call_10, call_23, call_25, call_26, call_27, bneq_4, ld_22, len_22, fa_26_5, ld_26, st_26, al_26]
  refine Wp.bS ((RCopy_ok g6 a qa hB a6).mono fun r hr => ?_)
  obtain ⟨v, S7⟩ := r
  obtain ⟨qw, rfl, g7, w7, hW7⟩ := hr
  dsimp only at g7 w7 hW7 ⊢
  obtain ⟨svw, r1, r2, r3, r4, r5, r6, r7, r8, r9⟩ := hW7
  have hcw : CfgAt W S7 a qw := ⟨⟨svw, r1, r2, r3⟩, r4, r5, hA.ld, hA.ldd, hA.le, hA.ll, hA.et, hA.lt⟩
  have g8 : Gd W (S7.new (.row (ccs a qw) 0)) := g7.new (objLt_mono (Nat.le_succ _) (cvl_obj hcw.vlt))
  have w8 : Low S7 (S7.new (.row (ccs a qw) 0)) := Low.new (Low.rfl' _) _
  have w58 : Low S5 (S7.new (.row (ccs a qw) 0)) := (w6.trans w7).trans w8
  have hlt7 : S5.c < S7.c := w7.2.1
  have hN7 := g7.n
  have hL7 := g7.ok.1
  have hb7 := (w58.2.2 S.c (by omega)).trans hb5
  have hb47 : (S7.new (.row (ccs a qw) 0)).heap S5.c = .row (ccs a qd) 0 := (w8.2.2 S5.c hlt7).trans ((w7.2.2 S5.c (Nat.lt_succ_self _)).trans (new_self _))
  have a8 := (a2.low w5).low w58
  have d8 := hcd.low w58
  have e4 := RSame_eq g8 a a qd qa d8 a8
  rw [es] at e4
  obtain ⟨svs, m1, m2, m3, z1, z2, z3, z4, mD, eD, mI, pw, mN, mK⟩ := hO
  have hsl : svs.length = a.delays.length := by rw [← eD, List.length_map]
  have hlock : (S7.new (.row (ccs a qw) 0)).lock = S.lock := w58.1.trans w5.1
  have kp : ∀ i, i < S5.c → (S7.new (.row (ccs a qw) 0)).heap i = S5.heap i := fun i hi => w58.2.2 i hi
  simp only [new_c] at z1
  obtain ⟨bd, kd, hbd, eDa, hDa⟩ : ∃ bd kd, (0 < a.delays.length → S.c + 1 + 1 ≤ bd ∧ bd < m1) ∧ (0 < a.delays.length → qd.ad = some ⟨bd, 0, none⟩) ∧ (0 < a.delays.length → (S7.new (.row (ccs a qw) 0)).heap bd = .row (VT.fl svs) kd) := by
    rcases mD with ⟨_, _, _, e, _⟩ | ⟨bd, cd, kd, e, _, _, h1, h2, hr, _⟩
    · refine ⟨0, 0, fun h => ?_, fun h => ?_, fun h => ?_⟩ <;> (rw [e] at hsl; simp at hsl; omega)
    · exact ⟨bd, kd, fun _ => ⟨h1, h2⟩, fun _ => by injection e, fun _ => (kp bd (by omega)).trans hr⟩
  have hin : ∀ s ∈ svs, s.n = s.l.length := fun s hs => by
    obtain ⟨_, _, e⟩ := (mI s hs).form
    injection e
  have lowA : ∀ U, Wr W (S7.new (.row (ccs a qw) 0)) (S.c + 1 + 1) S5.c U → Low S U := fun U w => ⟨w.lock.trans hlock, by rw [w.c]; simp only [new_c]; omega, fun i hi => (w.same i (.inl (by omega))).trans ((kp i (by omega)).trans ((w5.2.2 i (by simp only [new_c]; omega)).trans (w2.2.2 i hi)))⟩
  have upW : ∀ U, Wr W (S7.new (.row (ccs a qw) 0)) (S.c + 1 + 1) S5.c U → ∀ i, S5.c ≤ i → i < S7.c → U.heap i = S7.heap i := fun U w i h1 h2 => (w.same i (.inr h1)).trans (w8.2.2 i h2)
  have cl := fun y0 y1 y3 y4 y9 y10 y11 y12 y13 y14 y15 y16 y17 y18 y19 y20 y21 y22 y23 y24 y25 y26 y27 y28 y29 y30 y31 y32 y33 y34 y35 y58 y59 y60 y61 y62 y63 y64 y65 y66 y67 y68 y69 y70 y71 y72 y73 y74 y75 y76 y77 y78 y79 y80 y81 y82 y83 y84 y85 y86 => crows_loop (S7.new (.row (ccs a qw) 0)) a qa qd qw hB (b1 := S.c) (b4 := S5.c) (b6 := S7.c) (lo := S.c + 1 + 1) (m1 := m1) (m2 := m2) (m3 := m3) (hi := S5.c) z1 z2 z3 z4 (by simp only [new_c]; omega) (by rw [hlock]; omega) (by omega) hN (by omega) (Nat.le_refl _) (by omega) hb7 hb47 (new_self _)
    (fun U w => Check_eq w.g a qa (hA.low (lowA U w)))
    (fun U w => by
      have hc : S7.c ≤ U.c := by rw [w.c]; exact Nat.le_succ _
      have aw : CfgAt W U a qw := ⟨⟨svw, Rd_heap r1 hc (fun i hi => upW U w i (by have := r6 i hi; simp only [new_c] at this; omega) (r1.lt i hi)), r2, fun s hs => Rd_heap (r3 s hs) hc (fun i hi => upW U w i (by have := r7 s hs i hi; simp only [new_c] at this; omega) ((r3 s hs).lt i hi))⟩, Rd_heap r4 hc (fun i hi => upW U w i (by have := r8 i hi; simp only [new_c] at this; omega) (r4.lt i hi)), Rd_heap r5 hc (fun i hi => upW U w i (by have := r9 i hi; simp only [new_c] at this; omega) (r5.lt i hi)), hA.ld, hA.ldd, hA.le, hA.ll, hA.et, hA.lt⟩
      have := RSame_eq w.g a a qa qw (hA.low (lowA U w)) aw
      rw [es] at this
      exact this)
    svs hsl (fun s hs => by rw [hin s hs]; exact hB.ldd s.l (by rw [← eD]; exact List.mem_map_of_mem hs)) bd kd hbd eDa a.delays.length 0 rfl _ ⟨g8, rfl, rfl, fun _ _ => rfl⟩
    (Mk_shp (mK.keep fun i h1 h2 => kp i h2)) (Mk_shp (mN.mk.keep fun i h1 h2 => kp i (by omega))) (fun s hs => by have := Mk_shp ((mI s hs).keep fun i h1 h2 => kp i (by omega)); rw [← hin s hs] at this; exact this) hDa y0 y1 y3 y4 y9 y10 y11 y12 y13 y14 y15 y16 y17 y18 y19 y20 y21 y22 y23 y24 y25 y26 y27 y28 y29 y30 y31 y32 y33 y34 y35 y58 y59 y60 y61 y62 y63 y64 y65 y66 y67 y68 y69 y70 y71 y72 y73 y74 y75 y76 y77 y78 y79 y80 y81 y82 y83 y84 y85 y86
  rw [cast0] at cl
  simp -implicitDefEqProofs (maxSteps := 1000000) (disch := (refine id ?_; first | with_reducible assumption | ((first | with_reducible refine nat_le_id ?_ ); (first | (simp +arith only [new_c, new_lock, upd_c, upd_lock, relock_c, relock_lock]; done) | (simp only [new_c, new_lock, upd_c, upd_lock, relock_c, relock_lock]; with_reducible assumption) | (refine Nat.le_trans hN ?_; simp +arith only [new_c, new_lock, upd_c, upd_lock, relock_c, relock_lock]; done) | fail)) | ((fail_if_success (with_reducible apply isT_of)); (fail_if_success (first | with_reducible refine nat_le_id ?_ )); first | (simp +arith only [new_c, new_lock, upd_c, upd_lock, relock_c, relock_lock]; done) | (refine Nat.le_trans hN ?_; simp +arith only [new_c, new_lock, upd_c, upd_lock, relock_c, relock_lock]; done) | fail))) only [hb7, hb47, e4, ↓bindV_some, ↓bindS_some, ↓bindT_some, ↓condB_false, wV_true, bindV_some, bindS_some, bindT_some, ↓gV_f, ↓condK_B, wO_val, wS_val, pick_bool, un_not, box_agg, cell_at, cells_at, put_cons, cellOf_row, cellsOf_row, putOf_row, nth_zero, nth_succ, aggOf_some, new_self, cast0, eq_self, new_upd, new_at, new_lo, new_c, new_lock, relock2, relock_id, qS_true, unlock_some, splice_nil, splice_cons, and_self, Bool.not_true, Bool.not_false, Nat.zero_add, List.length_cons, List.length_nil, List.drop_zero, List.take_succ_cons, List.take_zero, List.set_cons_zero, List.set_cons_succ, List.all_cons, List.all_nil, storable_int, storable_slice, Bool.and_self, Nat.reduceAdd, Nat.reduceSub, Nat.reduceMul, Nat.reduceLeDiff, Nat.reduceLT, Nat.reduceEqDiff, Int.reduceLE, Int.reduceLT, Int.reduceAdd, Int.reduceNeg, Int.reduceEq, Int.reduceSub, Int.reduceMul, Int.reduceToNat, ↓reduceIte, Nat.le_refl, reduceCtorEq, call_10, call_23, call_25, call_26, call_27, bneq_4, ld_22, len_22, fa_26_5, ld_26, st_26, al_26]
  exact cl _ _ _ _ _ _ _ _ _ _ _ _ _ _ _ _ _ _ _ _ _ _ _ _ _ _ _ _ _ _ _ _ _ _ _ _ _ _ _ _ _ _ _ _ _ _ _ _ _ _ _ _ _ _ _ _ _ _ _ _
end
end Go.Proofs.Ytogcdgdnjinjkaa.F
end
