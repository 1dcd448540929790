/- What the functions of this chapter compute, in memories that are closed; conditions stand in each theorem. Laid together by a program for this claim. -/
import Derived.Test.YtogcdgdnjinjkaaQText0
import Derived.Test.YtogcdgdnjinjkaaQText1
set_option linter.unusedVariables false
set_option linter.unusedSimpArgs false
section
namespace Go.Proofs.Ytogcdgdnjinjkaa.F
open Go Go.Proofs.Ytogcdgdnjinjkaa.E
set_option linter.unusedVariables false
set_option linter.unusedSimpArgs false
abbrev u32 (n : Nat) : Value := .int .u32 (n : Int)
abbrev i64 (n : Int) : Value := .int .i64 n
theorem shr_nat {p : Program} (t : TypeId) (k : IntKind) (c : Nat) (hc : c < 4294967296) (h : Int) (h0 : 0 ≤ h) (h1 : h ≤ 32) : aBin p .shr t (.int .u32 (c : Int)) (.int k h) = some (.int .u32 ((c / 2 ^ h.toNat : Nat) : Int)) := by
  rw [bin_shr _ _ _ _ _ (by omega)]
  have e : min h.toNat IntKind.u32.bits = h.toNat := Nat.min_eq_left (by show h.toNat ≤ 32; omega)
  rw [e]
  congr 2
  rw [Int.fdiv_eq_ediv_of_nonneg _ (by have : (0 : Int) < 2 ^ h.toNat := Int.pow_pos (by omega); omega)]
  simp
theorem mask1 (n : Nat) (hn : n < 4294967296) : Go.bits .and .u32 (n : Int) 1 = ((n % 2 : Nat) : Int) := by
  have := and_nat n 1 hn (by omega)
  rw [show ((1 : Nat) : Int) = 1 from rfl] at this
  rw [this, Nat.and_one_is_mod]
def has (c : Nat) (h : Int) : Bool := decide (0 ≤ h ∧ h < 6 ∧ c / 2 ^ h.toNat % 2 = 1)
structure En where
  f : Int
  t : Nat
  ph : Int
  sz : Int
deriving DecidableEq
structure Lk where
  f : Int
  t : Nat
  gap : Int
  sz : Int
deriving DecidableEq
structure Cfg where
  hosts : Int
  cycle : Int
  delay : Int
  window : Int
  prec : Int
  delays : List (List Int)
  entries : List En
  links : List Lk
  queue : Int
abbrev evl (e : En) : Value := .agg #[.int .i64 e.f, .int .u32 (e.t : Int), .int .i64 e.ph, .int .i64 e.sz]
abbrev lvl (e : Lk) : Value := .agg #[.int .i64 e.f, .int .u32 (e.t : Int), .int .i64 e.gap, .int .i64 e.sz]
structure Pl where
  ad : Option Addr
  cd : Nat
  ae : Option Addr
  ce : Nat
  al : Option Addr
  cl : Nat
abbrev cvl (c : Cfg) (q : Pl) : Value := .agg #[.int .i64 c.hosts, .int .i64 c.cycle, .int .i64 c.delay, .int .i64 c.window, .int .i64 c.prec, .slice q.ad c.delays.length q.cd, .slice q.ae c.entries.length q.ce, .slice q.al c.links.length q.cl, .int .i64 c.queue]
def i64r (x : Int) : Prop := -9223372036854775808 ≤ x ∧ x < 9223372036854775808
structure En.Ok (e : En) : Prop where
  f : i64r e.f
  t : e.t < 4294967296
  ph : i64r e.ph
  sz : i64r e.sz
structure Cfg.Ok (c : Cfg) : Prop where
  hosts : i64r c.hosts
  cycle : i64r c.cycle
  delay : i64r c.delay
  window : i64r c.window
  prec : i64r c.prec
  queue : i64r c.queue
def inB (n lo hi : Int) : Bool := decide (lo ≤ n ∧ n ≤ hi)
def Cfg.spans (c : Cfg) : Bool := inB c.cycle 1 1073741824 && inB c.delay 0 1048576 && inB c.window 0 1048576 && inB c.prec 0 1048576
def route (hosts f : Int) (t : Nat) (sz : Int) : Bool := decide (0 ≤ f ∧ f < hosts ∧ t ≠ 0 ∧ t / 2 ^ hosts.toNat = 0 ∧ has t f = false ∧ 64 ≤ sz ∧ sz ≤ 1518)
def plain (c : Cfg) (e : En) : Bool := c.spans && route 6 e.f e.t e.sz && inB e.ph (-1125899906842624) 1125899906842624
def tm (sz : Int) : Int := if sz < 64 then 512 else if 1518 < sz then 12144 else sz * 8
def forward (c : Cfg) (e : En) : Int := if plain c e then e.ph + tm e.sz + c.delay + 2 * c.prec else 0
def early (c : Cfg) (e : En) : Int := if plain c e then forward c e + tm e.sz - c.prec else 0
def late (c : Cfg) (e : En) : Int := if plain c e then forward c e + tm e.sz + c.delay + c.prec else 0
def quiet (c : Cfg) : Int := if c.spans then 2 * c.delay + c.window + 4 * c.prec else 0
theorem tm_rng (sz : Int) : 512 ≤ tm sz ∧ tm sz ≤ 12144 := by
  unfold tm
  split
  · omega
  · split <;> omega
section
variable {W : World} {S : St}
theorem in_eq (g : Gd W S) (n lo hi : Int) : cw W 28 #[i64 n, i64 lo, i64 hi] S = some (.bool (inB n lo hi), S) := by
  rw [eq28]
  have hN := g.n; have hL : S.lock ≤ S.c := g.ok.1
  simp -implicitDefEqProofs (maxSteps := 1000000) (disch := (refine id ?_; first | with_reducible assumption | ((fail_if_success (with_reducible apply isT_of)); (fail_if_success (first | fail)); first | (with_reducible apply Gd.cl; with_reducible assumption) | with_reducible exact Low.rfl' _ | (simp only [flatR_int, flatR_bool, flatR_string, flatR_tuple, flatR_agg, flat_int, flat_bool, flat_string, flat_agg, flat0_int, flat0_bool, flat0_string, List.all_cons, List.all_nil, Bool.and_self, Bool.and_true, Bool.true_and]; done) | (simp only [objLt_row, objLt_dead, List.all_cons, List.all_nil, vlt1_int, vlt1_bool, vlt1_string, vlt1_nilp, vlt1_nils, vlt1_ptr, vlt1_sl, vlt1_func, vlt0_ptr, vlt0_sl, vlt0_int, vlt0_bool, vlt0_string, vlt0_nilp, vlt0_nils, vlt_int, vlt_bool, vlt_string, vlt_nilp, vlt_nils, vlt_ptr, vlt_sl, vlt_agg, vlt_func, List.toArray, Bool.and_true, Bool.true_and, Bool.and_self, Bool.and_eq_true, decide_eq_true_eq, and_true, true_and, new_c, upd_c, relock_c]; (try omega); done) | fail))) only [gcR_some, ↓bindV_some, bindV_some, ↓gV_t, wV_pos, wO_val, pick_and, bin_leq, bin_geq]
  refine congrArg (fun b => some (Value.bool b, S)) ?_
  unfold inB
  rw [Bool.eq_iff_iff]
  simp only [Bool.and_eq_true, decide_eq_true_eq]
theorem has_eq (g : Gd W S) (c : Nat) (hc : c < 4294967296) (h : Int) : cw W 64 #[u32 c, i64 h] S = some (.bool (has c h), S) := by
  rw [eq64]
  have hN := g.n; have hL : S.lock ≤ S.c := g.ok.1
  by_cases hh : 0 ≤ h ∧ h < 6
  · have hw := wrapu64 (x := h) (by omega) (by omega)
    have es := shr_nat (p := p) 30 .u64 c hc h hh.1 (by omega)
    have hd : c / 2 ^ h.toNat < 4294967296 := Nat.lt_of_le_of_lt (Nat.div_le_self _ _) hc
    have em := mask1 _ hd
    have h1 : (0 ≤ h) = True := eq_true hh.1
    have h2 : (h < 6) = True := eq_true hh.2
    simp -implicitDefEqProofs (maxSteps := 1000000) (disch := (refine id ?_; first | ((fail_if_success (with_reducible apply isT_of)); (fail_if_success (first | fail)); first | (with_reducible apply Gd.cl; with_reducible assumption) | with_reducible exact Low.rfl' _ | (simp only [flatR_int, flatR_bool, flatR_string, flatR_tuple, flatR_agg, flat_int, flat_bool, flat_string, flat_agg, flat0_int, flat0_bool, flat0_string, List.all_cons, List.all_nil, Bool.and_self, Bool.and_true, Bool.true_and]; done) | (simp only [objLt_row, objLt_dead, List.all_cons, List.all_nil, vlt1_int, vlt1_bool, vlt1_string, vlt1_nilp, vlt1_nils, vlt1_ptr, vlt1_sl, vlt1_func, vlt0_ptr, vlt0_sl, vlt0_int, vlt0_bool, vlt0_string, vlt0_nilp, vlt0_nils, vlt_int, vlt_bool, vlt_string, vlt_nilp, vlt_nils, vlt_ptr, vlt_sl, vlt_agg, vlt_func, List.toArray, Bool.and_true, Bool.true_and, Bool.and_self, Bool.and_eq_true, decide_eq_true_eq, and_true, true_and, new_c, upd_c, relock_c]; (try omega); done) | fail))) only [hw, es, em, h1, h2, gcR_some, ↓bindV_some, ↓bindS_some, wV_true, ↓wO_true, ↓wS_true, bindV_some, bindS_some, ↓gV_t, wO_true, wS_true, pick_bool, bin_lss, bin_geq, bin_eql, bin_and, eq_self, decide_true, ↓reduceIte, cv_3_56]
    refine congrArg (fun b => some (Value.bool b, S)) ?_
    unfold has
    rw [Bool.eq_iff_iff, decide_eq_true_iff, decide_eq_true_iff]
    omega
  · by_cases h0 : 0 ≤ h
    · have h1 : (0 ≤ h) = True := eq_true h0
      have h2 : (h < 6) = False := eq_false (by omega)
      simp -implicitDefEqProofs (maxSteps := 1000000) (disch := (refine id ?_; first | ((fail_if_success (with_reducible apply isT_of)); (fail_if_success (first | fail)); first | (with_reducible apply Gd.cl; with_reducible assumption) | with_reducible exact Low.rfl' _ | (simp only [flatR_int, flatR_bool, flatR_string, flatR_tuple, flatR_agg, flat_int, flat_bool, flat_string, flat_agg, flat0_int, flat0_bool, flat0_string, List.all_cons, List.all_nil, Bool.and_self, Bool.and_true, Bool.true_and]; done) | (simp only [objLt_row, objLt_dead, List.all_cons, List.all_nil, vlt1_int, vlt1_bool, vlt1_string, vlt1_nilp, vlt1_nils, vlt1_ptr, vlt1_sl, vlt1_func, vlt0_ptr, vlt0_sl, vlt0_int, vlt0_bool, vlt0_string, vlt0_nilp, vlt0_nils, vlt_int, vlt_bool, vlt_string, vlt_nilp, vlt_nils, vlt_ptr, vlt_sl, vlt_agg, vlt_func, List.toArray, Bool.and_true, Bool.true_and, Bool.and_self, Bool.and_eq_true, decide_eq_true_eq, and_true, true_and, new_c, upd_c, relock_c]; (try omega); done) | fail))) only [h1, h2, gcR_some, ↓bindV_some, ↓bindS_some, wV_true, ↓wO_true, ↓wO_false, ↓wS_false, bindV_some, bindS_some, ↓gV_t, wO_true, wO_false, wS_false, pick_bool, bin_lss, bin_geq, pick_false, eq_self, decide_true, decide_false, ↓reduceIte]
      refine congrArg (fun b => some (Value.bool b, S)) ?_
      unfold has
      rw [Bool.eq_iff_iff, decide_eq_true_iff]
      simp only [Bool.false_eq_true, false_iff]
      omega
    · have h1 : (0 ≤ h) = False := eq_false h0
      simp -implicitDefEqProofs (maxSteps := 1000000) (disch := (refine id ?_; first | ((fail_if_success (with_reducible apply isT_of)); (fail_if_success (first | fail)); first | (with_reducible apply Gd.cl; with_reducible assumption) | with_reducible exact Low.rfl' _ | (simp only [flatR_int, flatR_bool, flatR_string, flatR_tuple, flatR_agg, flat_int, flat_bool, flat_string, flat_agg, flat0_int, flat0_bool, flat0_string, List.all_cons, List.all_nil, Bool.and_self, Bool.and_true, Bool.true_and]; done) | (simp only [objLt_row, objLt_dead, List.all_cons, List.all_nil, vlt1_int, vlt1_bool, vlt1_string, vlt1_nilp, vlt1_nils, vlt1_ptr, vlt1_sl, vlt1_func, vlt0_ptr, vlt0_sl, vlt0_int, vlt0_bool, vlt0_string, vlt0_nilp, vlt0_nils, vlt_int, vlt_bool, vlt_string, vlt_nilp, vlt_nils, vlt_ptr, vlt_sl, vlt_agg, vlt_func, List.toArray, Bool.and_true, Bool.true_and, Bool.and_self, Bool.and_eq_true, decide_eq_true_eq, and_true, true_and, new_c, upd_c, relock_c]; (try omega); done) | fail))) only [h1, gcR_some, ↓bindV_some, ↓bindS_some, ↓wO_false, ↓wS_false, bindV_some, bindS_some, ↓gV_t, wO_false, wS_false, bin_geq, pick_false, decide_false]
      refine congrArg (fun b => some (Value.bool b, S)) ?_
      unfold has
      rw [Bool.eq_iff_iff, decide_eq_true_iff]
      simp only [Bool.false_eq_true, false_iff]
      omega
theorem time_eq (g : Gd W S) (sz : Int) : cw W 21 #[i64 sz] S = some (i64 (tm sz), S) := by
  rw [eq21]
  have hN := g.n; have hL : S.lock ≤ S.c := g.ok.1
  have e : IntKind.i64.wrap (8 * (if 1518 < (if sz < 64 then 64 else sz) then 1518 else (if sz < 64 then 64 else sz))) = tm sz := by
    unfold tm
    by_cases h1 : sz < 64
    · rw [if_pos h1, if_pos h1, if_neg (by omega)]; decide
    · by_cases h2 : 1518 < sz
      · rw [if_neg h1, if_neg h1, if_pos h2, if_pos h2]; decide
      · rw [if_neg h1, if_neg h1, if_neg h2, if_neg h2, wrap64 (by omega) (by omega)]; omega
  simp -implicitDefEqProofs (maxSteps := 1000000) (disch := (refine id ?_; first | ((fail_if_success (with_reducible apply isT_of)); (fail_if_success (first | fail)); first | (with_reducible apply Gd.cl; with_reducible assumption) | with_reducible exact Low.rfl' _ | (simp only [flatR_int, flatR_bool, flatR_string, flatR_tuple, flatR_agg, flat_int, flat_bool, flat_string, flat_agg, flat0_int, flat0_bool, flat0_string, List.all_cons, List.all_nil, Bool.and_self, Bool.and_true, Bool.true_and]; done) | (simp only [objLt_row, objLt_dead, List.all_cons, List.all_nil, vlt1_int, vlt1_bool, vlt1_string, vlt1_nilp, vlt1_nils, vlt1_ptr, vlt1_sl, vlt1_func, vlt0_ptr, vlt0_sl, vlt0_int, vlt0_bool, vlt0_string, vlt0_nilp, vlt0_nils, vlt_int, vlt_bool, vlt_string, vlt_nilp, vlt_nils, vlt_ptr, vlt_sl, vlt_agg, vlt_func, List.toArray, Bool.and_true, Bool.true_and, Bool.and_self, Bool.and_eq_true, decide_eq_true_eq, and_true, true_and, new_c, upd_c, relock_c]; (try omega); done) | fail))) only [min_int, max_int, e, gcR_some, ↓bindV_some, ↓bindS_some, bindV_some, bindS_some, bin_mul, eq_self]
theorem rtime_eq (g : Gd W S) (sz : Int) : cw W 39 #[i64 sz] S = some (i64 (tm sz), S) := by
  rw [eq39]
  have hN := g.n; have hL : S.lock ≤ S.c := g.ok.1
  simp -implicitDefEqProofs (maxSteps := 1000000) (disch := (refine id ?_; first | ((fail_if_success (with_reducible apply isT_of)); (fail_if_success (first | fail)); first | omega | (with_reducible apply Gd.cl; with_reducible assumption) | with_reducible exact Low.rfl' _ | (simp only [flatR_int, flatR_bool, flatR_string, flatR_tuple, flatR_agg, flat_int, flat_bool, flat_string, flat_agg, flat0_int, flat0_bool, flat0_string, List.all_cons, List.all_nil, Bool.and_self, Bool.and_true, Bool.true_and]; done) | (simp only [objLt_row, objLt_dead, List.all_cons, List.all_nil, vlt1_int, vlt1_bool, vlt1_string, vlt1_nilp, vlt1_nils, vlt1_ptr, vlt1_sl, vlt1_func, vlt0_ptr, vlt0_sl, vlt0_int, vlt0_bool, vlt0_string, vlt0_nilp, vlt0_nils, vlt_int, vlt_bool, vlt_string, vlt_nilp, vlt_nils, vlt_ptr, vlt_sl, vlt_agg, vlt_func, List.toArray, Bool.and_true, Bool.true_and, Bool.and_self, Bool.and_eq_true, decide_eq_true_eq, and_true, true_and, new_c, upd_c, relock_c]; (try omega); done) | fail))) only [gcR_some, ↓bindV_some, bindV_some, wrap64, ↓condK_B, gcR_B, bin_mul, bin_lss, bin_gtr, decide_eq_true_eq]
  unfold tm
  by_cases h1 : sz < 64
  · rw [if_pos h1, condB_pos h1]
  · by_cases h2 : 1518 < sz
    · rw [if_neg h1, condB_neg h1, if_pos h2, condB_pos h2]
    · rw [if_neg h1, condB_neg h1, if_neg h2, condB_neg h2]
theorem spans_eq (g : Gd W S) (c : Cfg) (q : Pl) (hq : vlt S.c (cvl c q) = true) : cw W 29 #[cvl c q] S = some (.bool c.spans, S) := by
  rw [eq29]
  have hN := g.n; have hL : S.lock ≤ S.c := g.ok.1
  have e := fun (U : St) (gU : Gd W U) (n lo hi : Int) => in_eq gU n lo hi
  rw [vlt_agg] at hq
  have ho : objLt (S.c + 1) (.row [.int .i64 c.hosts, .int .i64 c.cycle, .int .i64 c.delay, .int .i64 c.window, .int .i64 c.prec, .slice q.ad c.delays.length q.cd, .slice q.ae c.entries.length q.ce, .slice q.al c.links.length q.cl, .int .i64 c.queue] 0) = true := objLt_mono (Nat.le_succ _) (by exact hq)
  have g1 := g.new ho
  have ha : [cvl c q].all (vlt S.c) = true := by rw [List.all_cons, List.all_nil, vlt_agg, hq]; rfl
  simp -implicitDefEqProofs (maxSteps := 1000000) (disch := (refine id ?_; first | with_reducible assumption | ((first | fail); (first | (simp +arith only [new_c, new_lock, upd_c, upd_lock, relock_c, relock_lock]; done) | fail)) | ((fail_if_success (with_reducible apply isT_of)); (fail_if_success (first | fail)); first | (simp +arith only [new_c, new_lock, upd_c, upd_lock, relock_c, relock_lock]; done) | (with_reducible apply Gd.cl; with_reducible assumption) | with_reducible exact Low.rfl' _ | (with_reducible refine Low.new ?_ _; (repeat (first | with_reducible exact Low.rfl' _ | with_reducible assumption )); done) | (simp only [flatR_int, flatR_bool, flatR_string, flatR_tuple, flatR_agg, flat_int, flat_bool, flat_string, flat_agg, flat0_int, flat0_bool, flat0_string, List.all_cons, List.all_nil, Bool.and_self, Bool.and_true, Bool.true_and]; done) | fail))) only [e, gcR_some, ↓bindV_some, ↓bindS_some, bindV_some, bindS_some, ↓gV_t, wV_pos, wO_val, wS_val, pick_and, box_agg, cell_at, cellOf_row, nth_zero, nth_succ, new_at, Nat.zero_add, call_28, ld_2, fa_26_1, fa_26_2, fa_26_3, fa_26_4]
  rfl
theorem route_eq (g : Gd W S) (hosts : Int) (hh : 1 ≤ hosts ∧ hosts ≤ 6) (f : Int) (t : Nat) (ht : t < 4294967296) (sz : Int) : cw W 34 #[i64 hosts, i64 f, u32 t, i64 sz] S = some (.bool (route hosts f t sz), S) := by
  rw [eq34]
  have hN := g.n; have hL : S.lock ≤ S.c := g.ok.1
  have hw := wrapu64 (x := hosts) (by omega) (by omega)
  have hw2 := wrap64 (x := hosts - 1) (by omega) (by omega)
  have es := shr_nat (p := p) 30 .u64 t ht hosts (by omega) (by omega)
  have eh := has_eq g t ht f
  have ei := fun n lo hi => in_eq g n lo hi
  simp -implicitDefEqProofs (maxSteps := 1000000) (disch := (refine id ?_; first | with_reducible assumption | ((fail_if_success (with_reducible apply isT_of)); (fail_if_success (first | fail)); first | (with_reducible apply Gd.cl; with_reducible assumption) | with_reducible exact Low.rfl' _ | (simp only [flatR_int, flatR_bool, flatR_string, flatR_tuple, flatR_agg, flat_int, flat_bool, flat_string, flat_agg, flat0_int, flat0_bool, flat0_string, List.all_cons, List.all_nil, Bool.and_self, Bool.and_true, Bool.true_and]; done) | (simp only [objLt_row, objLt_dead, List.all_cons, List.all_nil, vlt1_int, vlt1_bool, vlt1_string, vlt1_nilp, vlt1_nils, vlt1_ptr, vlt1_sl, vlt1_func, vlt0_ptr, vlt0_sl, vlt0_int, vlt0_bool, vlt0_string, vlt0_nilp, vlt0_nils, vlt_int, vlt_bool, vlt_string, vlt_nilp, vlt_nils, vlt_ptr, vlt_sl, vlt_agg, vlt_func, List.toArray, Bool.and_true, Bool.true_and, Bool.and_self, Bool.and_eq_true, decide_eq_true_eq, and_true, true_and, new_c, upd_c, relock_c]; (try omega); done) | fail))) only [hw, hw2, es, eh, ei, gcR_some, ↓bindV_some, ↓bindS_some, bindV_some, bindS_some, ↓gV_t, wV_pos, wO_val, wS_val, pick_and, bin_sub, bin_eql, bin_neq, un_not, call_28, call_64, cv_3_56]
  refine congrArg (fun b => some (Value.bool b, S)) ?_
  unfold route inB
  rw [Bool.eq_iff_iff]
  simp only [Bool.and_eq_true, decide_eq_true_eq, Bool.not_eq_true', decide_eq_false_iff_not]
  constructor
  · rintro ⟨⟨⟨⟨⟨a, b⟩, c⟩, d⟩, e⟩, f1, f2⟩
    exact ⟨a, by omega, by omega, by omega, e, f1, f2⟩
  · rintro ⟨a, b, c, d, e, f1, f2⟩
    exact ⟨⟨⟨⟨⟨a, by omega⟩, by omega⟩, by omega⟩, e⟩, f1, f2⟩
theorem vlt_en (n : Nat) (e : En) : vlt n (evl e) = true := by rw [vlt_agg]; rfl
theorem cvl_obj {c : Cfg} {q : Pl} (hq : vlt S.c (cvl c q) = true) : [Value.int .i64 c.hosts, .int .i64 c.cycle, .int .i64 c.delay, .int .i64 c.window, .int .i64 c.prec, .slice q.ad c.delays.length q.cd, .slice q.ae c.entries.length q.ce, .slice q.al c.links.length q.cl, .int .i64 c.queue].all (vlt1 S.c) = true := by
  rw [vlt_agg] at hq
  exact hq
theorem plain_eq (g : Gd W S) (c : Cfg) (q : Pl) (hq : vlt S.c (cvl c q) = true) (e : En) (he : e.t < 4294967296) : cw W 40 #[cvl c q, evl e] S = some (.bool (plain c e), S) := by
  rw [eq40]
  have hN := g.n; have hL : S.lock ≤ S.c := g.ok.1
  have g1 := g.new (o := .row [Value.int .i64 c.hosts, .int .i64 c.cycle, .int .i64 c.delay, .int .i64 c.window, .int .i64 c.prec, .slice q.ad c.delays.length q.cd, .slice q.ae c.entries.length q.ce, .slice q.al c.links.length q.cl, .int .i64 c.queue] 0) (objLt_mono (Nat.le_succ _) (cvl_obj hq))
  have g2 := g1.new (o := .row [Value.int .i64 e.f, .int .u32 (e.t : Int), .int .i64 e.ph, .int .i64 e.sz] 0) rfl
  have ei := fun n lo hi => in_eq g2 n lo hi
  have es := spans_eq g2 c q (vlt_mono (by simp only [new_c]; omega) hq)
  have er := route_eq g2 6 (by decide) e.f e.t he e.sz
  have ha : [cvl c q, evl e].all (vlt S.c) = true := by rw [List.all_cons, hq, List.all_cons, vlt_en]; rfl
  simp -implicitDefEqProofs (maxSteps := 1000000) (disch := (refine id ?_; first | with_reducible assumption | ((first | fail); (first | (simp +arith only [new_c, new_lock, upd_c, upd_lock, relock_c, relock_lock]; done) | (refine Nat.le_trans hN ?_; simp +arith only [new_c, new_lock, upd_c, upd_lock, relock_c, relock_lock]; done) | fail)) | ((fail_if_success (with_reducible apply isT_of)); (fail_if_success (first | fail)); first | (simp +arith only [new_c, new_lock, upd_c, upd_lock, relock_c, relock_lock]; done) | (refine Nat.le_trans hN ?_; simp +arith only [new_c, new_lock, upd_c, upd_lock, relock_c, relock_lock]; done) | (with_reducible apply Gd.cl; with_reducible assumption) | with_reducible exact Low.rfl' _ | (with_reducible refine Low.new ?_ _; (repeat (first | with_reducible exact Low.rfl' _ | with_reducible assumption | refine Low.new ?_ _ )); done) | (simp only [flatR_int, flatR_bool, flatR_string, flatR_tuple, flatR_agg, flat_int, flat_bool, flat_string, flat_agg, flat0_int, flat0_bool, flat0_string, List.all_cons, List.all_nil, Bool.and_self, Bool.and_true, Bool.true_and]; done) | fail))) only [ei, es, er, gcR_some, ↓bindV_some, ↓bindS_some, bindV_some, bindS_some, ↓gV_t, wV_pos, wO_val, wS_val, pick_and, box_agg, cell_at, cells_at, cellOf_row, cellsOf_row, nth_zero, nth_succ, aggOf_some, new_at, new_lo, new_c, Nat.zero_add, List.length_cons, List.length_nil, List.drop_zero, List.take_succ_cons, List.take_zero, Nat.reduceAdd, Int.reduceNeg, ↓reduceIte, Nat.le_refl, call_28, call_29, call_34, ld_2, ld_3, ld_26, ld_30, fa_32_0, fa_32_1, fa_32_2, fa_32_3]
  rfl
theorem quiet_eq (g : Gd W S) (c : Cfg) (q : Pl) (hq : vlt S.c (cvl c q) = true) (hs : c.spans = true) : cw W 41 #[cvl c q] S = some (i64 (2 * c.delay + c.window + 4 * c.prec), S) := by
  have hs' : (1 ≤ c.cycle ∧ c.cycle ≤ 1073741824) ∧ (0 ≤ c.delay ∧ c.delay ≤ 1048576) ∧ (0 ≤ c.window ∧ c.window ≤ 1048576) ∧ (0 ≤ c.prec ∧ c.prec ≤ 1048576) := by
    unfold Cfg.spans inB at hs
    simp only [Bool.and_eq_true, decide_eq_true_eq] at hs
    omega
  rw [eq41]
  have hN := g.n; have hL : S.lock ≤ S.c := g.ok.1
  have g1 := g.new (o := .row [Value.int .i64 c.hosts, .int .i64 c.cycle, .int .i64 c.delay, .int .i64 c.window, .int .i64 c.prec, .slice q.ad c.delays.length q.cd, .slice q.ae c.entries.length q.ce, .slice q.al c.links.length q.cl, .int .i64 c.queue] 0) (objLt_mono (Nat.le_succ _) (cvl_obj hq))
  have ha : [cvl c q].all (vlt S.c) = true := by rw [List.all_cons, hq]; rfl
  simp -implicitDefEqProofs (maxSteps := 1000000) (disch := (refine id ?_; first | ((first | fail); (first | (simp +arith only [new_c, new_lock, upd_c, upd_lock, relock_c, relock_lock]; done) | fail)) | ((fail_if_success (with_reducible apply isT_of)); (fail_if_success (first | fail)); first | (simp +arith only [new_c, new_lock, upd_c, upd_lock, relock_c, relock_lock]; done) | omega | (with_reducible apply Gd.cl; with_reducible assumption) | with_reducible exact Low.rfl' _ | (with_reducible refine Low.new ?_ _; (repeat (first | with_reducible exact Low.rfl' _ )); done) | (simp only [flatR_int, flatR_bool, flatR_string, flatR_tuple, flatR_agg, flat_int, flat_bool, flat_string, flat_agg, flat0_int, flat0_bool, flat0_string, List.all_cons, List.all_nil, Bool.and_self, Bool.and_true, Bool.true_and]; done) | fail))) only [gcR_some, ↓bindV_some, ↓bindS_some, bindV_some, bindS_some, wrap64, bin_add, bin_mul, box_agg, cell_at, cellOf_row, nth_zero, nth_succ, eq_self, new_at, Nat.zero_add, ld_2, fa_26_2, fa_26_3, fa_26_4]
theorem plain_rng {c : Cfg} {e : En} (h : plain c e = true) : (1 ≤ c.cycle ∧ c.cycle ≤ 1073741824) ∧ (0 ≤ c.delay ∧ c.delay ≤ 1048576) ∧ (0 ≤ c.window ∧ c.window ≤ 1048576) ∧ (0 ≤ c.prec ∧ c.prec ≤ 1048576) ∧ (-1125899906842624 ≤ e.ph ∧ e.ph ≤ 1125899906842624) := by
  unfold plain Cfg.spans inB at h
  simp only [Bool.and_eq_true, decide_eq_true_eq] at h
  omega
theorem Forward_eq (g : Gd W S) (c : Cfg) (q : Pl) (hq : vlt S.c (cvl c q) = true) (e : En) (he : e.t < 4294967296) : cw W 16 #[cvl c q, evl e] S = some (i64 (forward c e), S) := by
  rw [eq16]
  have hN := g.n; have hL : S.lock ≤ S.c := g.ok.1
  have g1 := g.new (o := .row [Value.int .i64 c.hosts, .int .i64 c.cycle, .int .i64 c.delay, .int .i64 c.window, .int .i64 c.prec, .slice q.ad c.delays.length q.cd, .slice q.ae c.entries.length q.ce, .slice q.al c.links.length q.cl, .int .i64 c.queue] 0) (objLt_mono (Nat.le_succ _) (cvl_obj hq))
  have g2 := g1.new (o := .row [Value.int .i64 e.f, .int .u32 (e.t : Int), .int .i64 e.ph, .int .i64 e.sz] 0) rfl
  have ep := plain_eq g2 c q (vlt_mono (by simp only [new_c]; omega) hq) e he
  have et := fun (U : St) (gU : Gd W U) => time_eq gU e.sz
  have ha : [cvl c q, evl e].all (vlt S.c) = true := by rw [List.all_cons, hq, List.all_cons, vlt_en]; rfl
  have tr := tm_rng e.sz
  unfold forward
  cases hp : plain c e
  · simp -implicitDefEqProofs (maxSteps := 1000000) (disch := (refine id ?_; first | with_reducible assumption | ((first | fail); (first | (simp +arith only [new_c, new_lock, upd_c, upd_lock, relock_c, relock_lock]; done) | (refine Nat.le_trans hN ?_; simp +arith only [new_c, new_lock, upd_c, upd_lock, relock_c, relock_lock]; done) | fail)) | ((fail_if_success (with_reducible apply isT_of)); (fail_if_success (first | fail)); first | (simp +arith only [new_c, new_lock, upd_c, upd_lock, relock_c, relock_lock]; done) | (refine Nat.le_trans hN ?_; simp +arith only [new_c, new_lock, upd_c, upd_lock, relock_c, relock_lock]; done) | omega | (with_reducible apply Gd.cl; with_reducible assumption) | with_reducible exact Low.rfl' _ | (with_reducible refine Low.new ?_ _; (repeat (first | with_reducible exact Low.rfl' _ | with_reducible assumption | refine Low.new ?_ _ )); done) | (with_reducible refine Gd.relock2 ?_ ?_; rotate_left; simp only [new_c, upd_c, relock_c]; (repeat (first | with_reducible assumption )); done) | (simp only [flatR_int, flatR_bool, flatR_string, flatR_tuple, flatR_agg, flat_int, flat_bool, flat_string, flat_agg, flat0_int, flat0_bool, flat0_string, List.all_cons, List.all_nil, Bool.and_self, Bool.and_true, Bool.true_and]; done) | fail))) only [ep, hp, gcR_some, ↓bindV_some, ↓bindS_some, ↓condB_true, bindV_some, bindS_some, ↓condK_B, un_not, box_agg, cell_at, cells_at, cellOf_row, cellsOf_row, nth_zero, nth_succ, aggOf_some, eq_self, new_at, new_lo, new_c, new_lock, qS_true, Bool.not_false, Nat.zero_add, List.length_cons, List.length_nil, List.drop_zero, List.take_succ_cons, List.take_zero, Nat.reduceAdd, ↓reduceIte, Nat.le_refl, reduceCtorEq, call_21, call_40, ld_2, ld_3, fa_26_2, fa_26_4, ld_26, fa_32_2, fa_32_3, ld_32]
  · have hr := plain_rng hp
    simp -implicitDefEqProofs (maxSteps := 1000000) (disch := (refine id ?_; first | with_reducible assumption | ((first | fail); (first | (simp +arith only [new_c, new_lock, upd_c, upd_lock, relock_c, relock_lock]; done) | (refine Nat.le_trans hN ?_; simp +arith only [new_c, new_lock, upd_c, upd_lock, relock_c, relock_lock]; done) | fail)) | ((fail_if_success (with_reducible apply isT_of)); (fail_if_success (first | fail)); first | (simp +arith only [new_c, new_lock, upd_c, upd_lock, relock_c, relock_lock]; done) | (refine Nat.le_trans hN ?_; simp +arith only [new_c, new_lock, upd_c, upd_lock, relock_c, relock_lock]; done) | omega | (with_reducible apply Gd.cl; with_reducible assumption) | with_reducible exact Low.rfl' _ | (with_reducible refine Low.new ?_ _; (repeat (first | with_reducible exact Low.rfl' _ | with_reducible assumption | refine Low.new ?_ _ )); done) | (with_reducible refine Gd.relock2 ?_ ?_; rotate_left; simp only [new_c, upd_c, relock_c]; (repeat (first | with_reducible assumption )); done) | (simp only [flatR_int, flatR_bool, flatR_string, flatR_tuple, flatR_agg, flat_int, flat_bool, flat_string, flat_agg, flat0_int, flat0_bool, flat0_string, List.all_cons, List.all_nil, Bool.and_self, Bool.and_true, Bool.true_and]; done) | fail))) only [ep, hp, et, gcR_some, ↓bindV_some, ↓bindS_some, ↓condB_false, bindV_some, bindS_some, wrap64, ↓condK_B, bin_add, bin_mul, un_not, box_agg, cell_at, cells_at, cellOf_row, cellsOf_row, nth_zero, nth_succ, aggOf_some, eq_self, new_at, new_lo, new_c, new_lock, relock2, relock_id, qS_true, unlock_some, Bool.not_true, Nat.zero_add, List.length_cons, List.length_nil, List.drop_zero, List.take_succ_cons, List.take_zero, Nat.reduceAdd, ↓reduceIte, Nat.le_refl, reduceCtorEq, call_21, call_40, ld_2, ld_3, fa_26_2, fa_26_4, ld_26, fa_32_2, fa_32_3, ld_32]
end
end Go.Proofs.Ytogcdgdnjinjkaa.F
end
section
namespace Go.Proofs.Ytogcdgdnjinjkaa.F
open Go Go.Proofs.Ytogcdgdnjinjkaa.E
set_option linter.unusedVariables false
set_option linter.unusedSimpArgs false
section
variable {W : World} {S : St}
theorem Early_eq (g : Gd W S) (c : Cfg) (q : Pl) (hq : vlt S.c (cvl c q) = true) (e : En) (he : e.t < 4294967296) : cw W 17 #[cvl c q, evl e] S = some (i64 (early c e), S) := by
  rw [eq17]
  have hN := g.n; have hL : S.lock ≤ S.c := g.ok.1
  have g1 := g.new (o := .row [Value.int .i64 c.hosts, .int .i64 c.cycle, .int .i64 c.delay, .int .i64 c.window, .int .i64 c.prec, .slice q.ad c.delays.length q.cd, .slice q.ae c.entries.length q.ce, .slice q.al c.links.length q.cl, .int .i64 c.queue] 0) (objLt_mono (Nat.le_succ _) (cvl_obj hq))
  have g2 := g1.new (o := .row [Value.int .i64 e.f, .int .u32 (e.t : Int), .int .i64 e.ph, .int .i64 e.sz] 0) rfl
  have hq2 : vlt (S.c + 1 + 1) (cvl c q) = true := vlt_mono (by omega) hq
  have ha : [cvl c q, evl e].all (vlt S.c) = true := by rw [List.all_cons, hq, List.all_cons, vlt_en]; rfl
  have ep := plain_eq g2 c q hq2 e he
  have ef := fun (U : St) (gU : Gd W U) (hU : vlt U.c (cvl c q) = true) => Forward_eq gU c q hU e he
  have et := fun (U : St) (gU : Gd W U) => time_eq gU e.sz
  have tr := tm_rng e.sz
  unfold early
  cases hp : plain c e
  · simp -implicitDefEqProofs (maxSteps := 1000000) (disch := (refine id ?_; first | with_reducible assumption | ((fail_if_success (with_reducible apply isT_of)); (fail_if_success (first | fail)); first | (simp +arith only [new_c, new_lock, upd_c, upd_lock, relock_c, relock_lock]; done) | omega | (with_reducible apply Gd.cl; with_reducible assumption) | (simp only [new_c, new_lock, upd_c, upd_lock, relock_c, relock_lock] <;> omega) | with_reducible exact Low.rfl' _ | (with_reducible refine Low.new ?_ _; (repeat (first | with_reducible exact Low.rfl' _ | with_reducible assumption | refine Low.new ?_ _ )); done) | (with_reducible refine Gd.relock2 ?_ ?_; rotate_left; simp only [new_c, upd_c, relock_c]; (repeat (first | with_reducible assumption )); done) | (simp only [flatR_int, flatR_bool, flatR_string, flatR_tuple, flatR_agg, flat_int, flat_bool, flat_string, flat_agg, flat0_int, flat0_bool, flat0_string, List.all_cons, List.all_nil, Bool.and_self, Bool.and_true, Bool.true_and]; done) | fail))) only [ep, hp, gcR_some, ↓bindV_some, ↓bindS_some, ↓condB_true, bindV_some, bindS_some, ↓condK_B, un_not, box_agg, cell_at, cells_at, cellsOf_row, aggOf_some, eq_self, new_at, new_lo, new_c, new_lock, qS_true, Bool.not_false, Nat.zero_add, List.length_cons, List.length_nil, List.drop_zero, List.take_succ_cons, List.take_zero, Nat.reduceAdd, ↓reduceIte, Nat.le_refl, reduceCtorEq, call_16, call_21, call_40, ld_2, ld_3, fa_26_4, ld_26, fa_32_3, ld_32]
  · have hr := plain_rng hp
    have hf : forward c e = e.ph + tm e.sz + c.delay + 2 * c.prec := by unfold forward; rw [if_pos hp]
    simp -implicitDefEqProofs (maxSteps := 1000000) (disch := (refine id ?_; first | with_reducible assumption | ((fail_if_success (with_reducible apply isT_of)); (fail_if_success (first | fail)); first | (simp +arith only [new_c, new_lock, upd_c, upd_lock, relock_c, relock_lock]; done) | omega | (with_reducible apply Gd.cl; with_reducible assumption) | (simp only [new_c, new_lock, upd_c, upd_lock, relock_c, relock_lock] <;> omega) | with_reducible exact Low.rfl' _ | (with_reducible refine Low.new ?_ _; (repeat (first | with_reducible exact Low.rfl' _ | with_reducible assumption | refine Low.new ?_ _ )); done) | (with_reducible refine Gd.relock2 ?_ ?_; rotate_left; simp only [new_c, upd_c, relock_c]; (repeat (first | with_reducible assumption )); done) | (simp only [flatR_int, flatR_bool, flatR_string, flatR_tuple, flatR_agg, flat_int, flat_bool, flat_string, flat_agg, flat0_int, flat0_bool, flat0_string, List.all_cons, List.all_nil, Bool.and_self, Bool.and_true, Bool.true_and]; done) | fail))) only [ep, hp, ef, et, hf, gcR_some, ↓bindV_some, ↓bindS_some, ↓condB_false, bindV_some, bindS_some, wrap64, ↓condK_B, bin_add, bin_sub, un_not, box_agg, cell_at, cells_at, cellOf_row, cellsOf_row, nth_zero, nth_succ, aggOf_some, eq_self, new_at, new_lo, new_c, new_lock, relock2, relock_id, qS_true, unlock_some, Bool.not_true, Nat.zero_add, List.length_cons, List.length_nil, List.drop_zero, List.take_succ_cons, List.take_zero, Nat.reduceAdd, ↓reduceIte, Nat.le_refl, reduceCtorEq, call_16, call_21, call_40, ld_2, ld_3, fa_26_4, ld_26, fa_32_3, ld_32]
theorem Late_eq (g : Gd W S) (c : Cfg) (q : Pl) (hq : vlt S.c (cvl c q) = true) (e : En) (he : e.t < 4294967296) : cw W 18 #[cvl c q, evl e] S = some (i64 (late c e), S) := by
  rw [eq18]
  have hN := g.n; have hL : S.lock ≤ S.c := g.ok.1
  have g1 := g.new (o := .row [Value.int .i64 c.hosts, .int .i64 c.cycle, .int .i64 c.delay, .int .i64 c.window, .int .i64 c.prec, .slice q.ad c.delays.length q.cd, .slice q.ae c.entries.length q.ce, .slice q.al c.links.length q.cl, .int .i64 c.queue] 0) (objLt_mono (Nat.le_succ _) (cvl_obj hq))
  have g2 := g1.new (o := .row [Value.int .i64 e.f, .int .u32 (e.t : Int), .int .i64 e.ph, .int .i64 e.sz] 0) rfl
  have hq2 : vlt (S.c + 1 + 1) (cvl c q) = true := vlt_mono (by omega) hq
  have ha : [cvl c q, evl e].all (vlt S.c) = true := by rw [List.all_cons, hq, List.all_cons, vlt_en]; rfl
  have ep := plain_eq g2 c q hq2 e he
  have ef := fun (U : St) (gU : Gd W U) (hU : vlt U.c (cvl c q) = true) => Forward_eq gU c q hU e he
  have et := fun (U : St) (gU : Gd W U) => time_eq gU e.sz
  have tr := tm_rng e.sz
  unfold late
  cases hp : plain c e
  · simp -implicitDefEqProofs (maxSteps := 1000000) (disch := (refine id ?_; first | with_reducible assumption | ((fail_if_success (with_reducible apply isT_of)); (fail_if_success (first | fail)); first | (simp +arith only [new_c, new_lock, upd_c, upd_lock, relock_c, relock_lock]; done) | omega | (with_reducible apply Gd.cl; with_reducible assumption) | (simp only [new_c, new_lock, upd_c, upd_lock, relock_c, relock_lock] <;> omega) | with_reducible exact Low.rfl' _ | (with_reducible refine Low.new ?_ _; (repeat (first | with_reducible exact Low.rfl' _ | with_reducible assumption | refine Low.new ?_ _ )); done) | (with_reducible refine Gd.relock2 ?_ ?_; rotate_left; simp only [new_c, upd_c, relock_c]; (repeat (first | with_reducible assumption )); done) | (simp only [flatR_int, flatR_bool, flatR_string, flatR_tuple, flatR_agg, flat_int, flat_bool, flat_string, flat_agg, flat0_int, flat0_bool, flat0_string, List.all_cons, List.all_nil, Bool.and_self, Bool.and_true, Bool.true_and]; done) | fail))) only [ep, hp, gcR_some, ↓bindV_some, ↓bindS_some, ↓condB_true, bindV_some, bindS_some, ↓condK_B, un_not, box_agg, cell_at, cells_at, cellsOf_row, aggOf_some, eq_self, new_at, new_lo, new_c, new_lock, qS_true, Bool.not_false, Nat.zero_add, List.length_cons, List.length_nil, List.drop_zero, List.take_succ_cons, List.take_zero, Nat.reduceAdd, ↓reduceIte, Nat.le_refl, reduceCtorEq, call_16, call_21, call_40, ld_2, ld_3, fa_26_2, fa_26_4, ld_26, fa_32_3, ld_32]
  · have hr := plain_rng hp
    have hf : forward c e = e.ph + tm e.sz + c.delay + 2 * c.prec := by unfold forward; rw [if_pos hp]
    simp -implicitDefEqProofs (maxSteps := 1000000) (disch := (refine id ?_; first | with_reducible assumption | ((fail_if_success (with_reducible apply isT_of)); (fail_if_success (first | fail)); first | (simp +arith only [new_c, new_lock, upd_c, upd_lock, relock_c, relock_lock]; done) | omega | (with_reducible apply Gd.cl; with_reducible assumption) | (simp only [new_c, new_lock, upd_c, upd_lock, relock_c, relock_lock] <;> omega) | with_reducible exact Low.rfl' _ | (with_reducible refine Low.new ?_ _; (repeat (first | with_reducible exact Low.rfl' _ | with_reducible assumption | refine Low.new ?_ _ )); done) | (with_reducible refine Gd.relock2 ?_ ?_; rotate_left; simp only [new_c, upd_c, relock_c]; (repeat (first | with_reducible assumption )); done) | (simp only [flatR_int, flatR_bool, flatR_string, flatR_tuple, flatR_agg, flat_int, flat_bool, flat_string, flat_agg, flat0_int, flat0_bool, flat0_string, List.all_cons, List.all_nil, Bool.and_self, Bool.and_true, Bool.true_and]; done) | fail))) only [ep, hp, ef, et, hf, gcR_some, ↓bindV_some, ↓bindS_some, ↓condB_false, bindV_some, bindS_some, wrap64, ↓condK_B, bin_add, un_not, box_agg, cell_at, cells_at, cellOf_row, cellsOf_row, nth_zero, nth_succ, aggOf_some, eq_self, new_at, new_lo, new_c, new_lock, relock2, relock_id, qS_true, unlock_some, Bool.not_true, Nat.zero_add, List.length_cons, List.length_nil, List.drop_zero, List.take_succ_cons, List.take_zero, Nat.reduceAdd, ↓reduceIte, Nat.le_refl, reduceCtorEq, call_16, call_21, call_40, ld_2, ld_3, fa_26_2, fa_26_4, ld_26, fa_32_3, ld_32]
def at0 (c : Cfg) (e : En) : Int := if plain c e then e.ph + tm e.sz - c.prec else 0
def at1 (c : Cfg) (e : En) : Int := if plain c e then e.ph + tm e.sz + c.delay + c.prec else 0
theorem At_eq (g : Gd W S) (c : Cfg) (q : Pl) (hq : vlt S.c (cvl c q) = true) (e : En) (he : e.t < 4294967296) : cw W 15 #[cvl c q, evl e] S = some (.tuple #[i64 (at0 c e), i64 (at1 c e)], S) := by
  rw [eq15]
  have hN := g.n; have hL : S.lock ≤ S.c := g.ok.1
  have g1 := g.new (o := .row [Value.int .i64 c.hosts, .int .i64 c.cycle, .int .i64 c.delay, .int .i64 c.window, .int .i64 c.prec, .slice q.ad c.delays.length q.cd, .slice q.ae c.entries.length q.ce, .slice q.al c.links.length q.cl, .int .i64 c.queue] 0) (objLt_mono (Nat.le_succ _) (cvl_obj hq))
  have g2 := g1.new (o := .row [Value.int .i64 e.f, .int .u32 (e.t : Int), .int .i64 e.ph, .int .i64 e.sz] 0) rfl
  have hq2 : vlt (S.c + 1 + 1) (cvl c q) = true := vlt_mono (by omega) hq
  have ha : [cvl c q, evl e].all (vlt S.c) = true := by rw [List.all_cons, hq, List.all_cons, vlt_en]; rfl
  have ep := fun (U : St) (gU : Gd W U) (hU : vlt U.c (cvl c q) = true) => plain_eq gU c q hU e he
  have et := fun (U : St) (gU : Gd W U) => time_eq gU e.sz
  have hq4 : vlt (S.c + 1 + 1 + 1 + 1) (cvl c q) = true := vlt_mono (by omega) hq
  have g4 : Gd W ((((S.new (.row [Value.int .i64 c.hosts, .int .i64 c.cycle, .int .i64 c.delay, .int .i64 c.window, .int .i64 c.prec, .slice q.ad c.delays.length q.cd, .slice q.ae c.entries.length q.ce, .slice q.al c.links.length q.cl, .int .i64 c.queue] 0)).new (.row [Value.int .i64 e.f, .int .u32 (e.t : Int), .int .i64 e.ph, .int .i64 e.sz] 0)).new (.row [.int .i64 0] 0)).new (.row [.int .i64 0] 0)) := (g2.new rfl).new rfl
  have tr := tm_rng e.sz
  unfold at0 at1
  cases hp : plain c e
  · simp -implicitDefEqProofs (maxSteps := 1000000) (disch := (refine id ?_; first | with_reducible assumption | ((fail_if_success (with_reducible apply isT_of)); (fail_if_success (first | fail)); first | (simp +arith only [new_c, new_lock, upd_c, upd_lock, relock_c, relock_lock]; done) | omega | (with_reducible apply Gd.cl; with_reducible assumption) | (simp only [new_c, new_lock, upd_c, upd_lock, relock_c, relock_lock] <;> omega) | with_reducible exact Low.rfl' _ | (with_reducible refine Low.new ?_ _; (repeat (first | with_reducible exact Low.rfl' _ | with_reducible assumption | refine Low.new ?_ _ )); done) | (with_reducible refine Gd.relock2 ?_ ?_; rotate_left; simp only [new_c, upd_c, relock_c]; (repeat (first | with_reducible assumption )); done) | (simp only [flatR_int, flatR_bool, flatR_string, flatR_tuple, flatR_agg, flat_int, flat_bool, flat_string, flat_agg, flat0_int, flat0_bool, flat0_string, List.all_cons, List.all_nil, Bool.and_self, Bool.and_true, Bool.true_and]; done) | fail))) only [ep, hp, gcR_some, ↓bindV_some, ↓bindS_some, ↓condB_true, bindV_some, bindS_some, ↓condK_B, un_not, box_agg, cell_at, cells_at, cellOf_row, cellsOf_row, nth_zero, nth_succ, aggOf_some, eq_self, new_at, new_lo, new_c, new_lock, qS_true, Bool.not_false, Nat.zero_add, List.length_cons, List.length_nil, List.drop_zero, List.take_succ_cons, List.take_zero, Nat.reduceAdd, ↓reduceIte, Nat.le_refl, reduceCtorEq, call_21, call_40, ld_2, ld_3, fa_26_2, fa_26_4, ld_26, fa_32_2, fa_32_3, ld_32]
  · have hr := plain_rng hp
    simp -implicitDefEqProofs (maxSteps := 1000000) (disch := (refine id ?_; first | with_reducible assumption | ((fail_if_success (with_reducible apply isT_of)); (fail_if_success (first | fail)); first | (simp +arith only [new_c, new_lock, upd_c, upd_lock, relock_c, relock_lock]; done) | omega | (with_reducible apply Gd.cl; with_reducible assumption) | (simp only [new_c, new_lock, upd_c, upd_lock, relock_c, relock_lock] <;> omega) | with_reducible exact Low.rfl' _ | (with_reducible refine Low.new ?_ _; (repeat (first | with_reducible exact Low.rfl' _ | with_reducible assumption | refine Low.new ?_ _ )); done) | (with_reducible refine Gd.relock2 ?_ ?_; rotate_left; simp only [new_c, upd_c, relock_c]; (repeat (first | with_reducible assumption )); done) | (simp only [flatR_int, flatR_bool, flatR_string, flatR_tuple, flatR_agg, flat_int, flat_bool, flat_string, flat_agg, flat0_int, flat0_bool, flat0_string, List.all_cons, List.all_nil, Bool.and_self, Bool.and_true, Bool.true_and]; done) | fail))) only [ep, hp, et, gcR_some, ↓bindV_some, ↓bindS_some, ↓condB_false, bindV_some, bindS_some, wrap64, ↓condK_B, bin_add, bin_sub, un_not, box_agg, cell_at, cells_at, cellOf_row, cellsOf_row, nth_zero, nth_succ, aggOf_some, eq_self, new_at, new_lo, new_c, new_lock, relock2, relock_id, qS_true, unlock_some, Bool.not_true, Nat.zero_add, List.length_cons, List.length_nil, List.drop_zero, List.take_succ_cons, List.take_zero, Nat.reduceAdd, ↓reduceIte, Nat.le_refl, reduceCtorEq, call_21, call_40, ld_2, ld_3, fa_26_2, fa_26_4, ld_26, fa_32_2, fa_32_3, ld_32]
theorem Quiet_eq (g : Gd W S) (c : Cfg) (q : Pl) (hq : vlt S.c (cvl c q) = true) : cw W 19 #[cvl c q] S = some (i64 (quiet c), S) := by
  rw [eq19]
  have hN := g.n; have hL : S.lock ≤ S.c := g.ok.1
  have g1 := g.new (o := .row [Value.int .i64 c.hosts, .int .i64 c.cycle, .int .i64 c.delay, .int .i64 c.window, .int .i64 c.prec, .slice q.ad c.delays.length q.cd, .slice q.ae c.entries.length q.ce, .slice q.al c.links.length q.cl, .int .i64 c.queue] 0) (objLt_mono (Nat.le_succ _) (cvl_obj hq))
  have hq1 : vlt (S.c + 1) (cvl c q) = true := vlt_mono (by omega) hq
  have ha : [cvl c q].all (vlt S.c) = true := by rw [List.all_cons, hq]; rfl
  have es := spans_eq g1 c q hq1
  have eq' := fun (h : c.spans = true) => quiet_eq g1 c q hq1 h
  unfold quiet
  cases hs : c.spans
  · simp -implicitDefEqProofs (maxSteps := 1000000) (disch := (refine id ?_; first | ((fail_if_success (with_reducible apply isT_of)); (fail_if_success (first | fail)); first | (simp +arith only [new_c, new_lock, upd_c, upd_lock, relock_c, relock_lock]; done) | omega | (with_reducible apply Gd.cl; with_reducible assumption) | with_reducible exact Low.rfl' _ | (with_reducible refine Low.new ?_ _; (repeat (first | with_reducible exact Low.rfl' _ )); done) | (simp only [flatR_int, flatR_bool, flatR_string, flatR_tuple, flatR_agg, flat_int, flat_bool, flat_string, flat_agg, flat0_int, flat0_bool, flat0_string, List.all_cons, List.all_nil, Bool.and_self, Bool.and_true, Bool.true_and]; done) | fail))) only [es, hs, gcR_some, ↓bindV_some, ↓bindS_some, ↓condB_true, bindV_some, bindS_some, ↓condK_B, un_not, box_agg, cells_at, cellsOf_row, aggOf_some, eq_self, new_at, Bool.not_false, Nat.zero_add, List.length_cons, List.length_nil, List.drop_zero, List.take_succ_cons, List.take_zero, Nat.reduceAdd, ↓reduceIte, Nat.le_refl, reduceCtorEq, call_29, call_41, ld_26]
  · have eq2 := eq' hs
    simp -implicitDefEqProofs (maxSteps := 1000000) (disch := (refine id ?_; first | ((fail_if_success (with_reducible apply isT_of)); (fail_if_success (first | fail)); first | (simp +arith only [new_c, new_lock, upd_c, upd_lock, relock_c, relock_lock]; done) | omega | (with_reducible apply Gd.cl; with_reducible assumption) | with_reducible exact Low.rfl' _ | (with_reducible refine Low.new ?_ _; (repeat (first | with_reducible exact Low.rfl' _ )); done) | (simp only [flatR_int, flatR_bool, flatR_string, flatR_tuple, flatR_agg, flat_int, flat_bool, flat_string, flat_agg, flat0_int, flat0_bool, flat0_string, List.all_cons, List.all_nil, Bool.and_self, Bool.and_true, Bool.true_and]; done) | fail))) only [es, hs, eq2, gcR_some, ↓bindV_some, ↓bindS_some, ↓condB_false, bindV_some, bindS_some, ↓condK_B, un_not, box_agg, cells_at, cellsOf_row, aggOf_some, eq_self, new_at, Bool.not_true, Nat.zero_add, List.length_cons, List.length_nil, List.drop_zero, List.take_succ_cons, List.take_zero, Nat.reduceAdd, ↓reduceIte, Nat.le_refl, reduceCtorEq, call_29, call_41, ld_26]
theorem short_eq (g : Gd W S) (n : Int) : cw W 65 #[i64 n] S = some (.bool (inB n 0 1048576), S) := by
  rw [eq65]
  have hN := g.n; have hL : S.lock ≤ S.c := g.ok.1
  simp -implicitDefEqProofs (maxSteps := 1000000) (disch := (refine id ?_; first | with_reducible assumption | ((fail_if_success (with_reducible apply isT_of)); (fail_if_success (first | fail)); first | (with_reducible apply Gd.cl; with_reducible assumption) | with_reducible exact Low.rfl' _ | (simp only [flatR_int, flatR_bool, flatR_string, flatR_tuple, flatR_agg, flat_int, flat_bool, flat_string, flat_agg, flat0_int, flat0_bool, flat0_string, List.all_cons, List.all_nil, Bool.and_self, Bool.and_true, Bool.true_and]; done) | (simp only [objLt_row, objLt_dead, List.all_cons, List.all_nil, vlt1_int, vlt1_bool, vlt1_string, vlt1_nilp, vlt1_nils, vlt1_ptr, vlt1_sl, vlt1_func, vlt0_ptr, vlt0_sl, vlt0_int, vlt0_bool, vlt0_string, vlt0_nilp, vlt0_nils, vlt_int, vlt_bool, vlt_string, vlt_nilp, vlt_nils, vlt_ptr, vlt_sl, vlt_agg, vlt_func, List.toArray, Bool.and_true, Bool.true_and, Bool.and_self, Bool.and_eq_true, decide_eq_true_eq, and_true, true_and, new_c, upd_c, relock_c]; (try omega); done) | fail))) only [gcR_some, ↓bindV_some, bindV_some, ↓gV_t, wV_pos, wO_val, pick_and, bin_leq, bin_geq]
  (all_goals (first | rfl | (refine congrArg (fun b => some (Value.bool b, _)) ?_; rw [Bool.eq_iff_iff]; simp only [inB, decide_eq_true_eq, Bool.and_eq_true] <;> omega)))
theorem RSpans_eq (g : Gd W S) (c : Cfg) (q : Pl) (hq : vlt S.c (cvl c q) = true) : cw W 35 #[cvl c q] S = some (.bool c.spans, S) := by
  rw [eq35]
  have hN := g.n; have hL : S.lock ≤ S.c := g.ok.1
  have g1 := g.new (o := .row [Value.int .i64 c.hosts, .int .i64 c.cycle, .int .i64 c.delay, .int .i64 c.window, .int .i64 c.prec, .slice q.ad c.delays.length q.cd, .slice q.ae c.entries.length q.ce, .slice q.al c.links.length q.cl, .int .i64 c.queue] 0) (objLt_mono (Nat.le_succ _) (cvl_obj hq))
  have hq1 : vlt (S.c + 1) (cvl c q) = true := vlt_mono (by omega) hq
  have ha : [cvl c q].all (vlt S.c) = true := by rw [List.all_cons, hq]; rfl
  have es := fun n => short_eq g1 n
  simp -implicitDefEqProofs (maxSteps := 1000000) (disch := (refine id ?_; first | with_reducible assumption | ((fail_if_success (with_reducible apply isT_of)); (fail_if_success (first | fail)); first | (simp +arith only [new_c, new_lock, upd_c, upd_lock, relock_c, relock_lock]; done) | (with_reducible apply Gd.cl; with_reducible assumption) | with_reducible exact Low.rfl' _ | (with_reducible refine Low.new ?_ _; (repeat (first | with_reducible exact Low.rfl' _ | with_reducible assumption )); done) | (simp only [flatR_int, flatR_bool, flatR_string, flatR_tuple, flatR_agg, flat_int, flat_bool, flat_string, flat_agg, flat0_int, flat0_bool, flat0_string, List.all_cons, List.all_nil, Bool.and_self, Bool.and_true, Bool.true_and]; done) | fail))) only [es, gcR_some, ↓bindV_some, ↓bindS_some, bindV_some, bindS_some, ↓gV_t, wV_pos, wO_val, wS_val, pick_and, bin_leq, bin_geq, box_agg, cell_at, cellOf_row, nth_zero, nth_succ, new_at, Nat.zero_add, call_65, ld_2, fa_26_1, fa_26_2, fa_26_3, fa_26_4]
  refine congrArg (fun b => some (Value.bool b, S)) ?_
  unfold Cfg.spans
  rw [Bool.eq_iff_iff]
  simp only [inB, Bool.and_eq_true, decide_eq_true_eq]
theorem RQuiet_eq (g : Gd W S) (c : Cfg) (q : Pl) (hq : vlt S.c (cvl c q) = true) : cw W 20 #[cvl c q] S = some (i64 (quiet c), S) := by
  rw [eq20]
  have hN := g.n; have hL : S.lock ≤ S.c := g.ok.1
  have g1 := g.new (o := .row [Value.int .i64 c.hosts, .int .i64 c.cycle, .int .i64 c.delay, .int .i64 c.window, .int .i64 c.prec, .slice q.ad c.delays.length q.cd, .slice q.ae c.entries.length q.ce, .slice q.al c.links.length q.cl, .int .i64 c.queue] 0) (objLt_mono (Nat.le_succ _) (cvl_obj hq))
  have hq1 : vlt (S.c + 1) (cvl c q) = true := vlt_mono (by omega) hq
  have ha : [cvl c q].all (vlt S.c) = true := by rw [List.all_cons, hq]; rfl
  have es := RSpans_eq g1 c q hq1
  unfold quiet
  cases hs : c.spans
  · simp -implicitDefEqProofs (maxSteps := 1000000) (disch := (refine id ?_; first | ((fail_if_success (with_reducible apply isT_of)); (fail_if_success (first | fail)); first | (simp +arith only [new_c, new_lock, upd_c, upd_lock, relock_c, relock_lock]; done) | omega | (with_reducible apply Gd.cl; with_reducible assumption) | with_reducible exact Low.rfl' _ | (with_reducible refine Low.new ?_ _; (repeat (first | with_reducible exact Low.rfl' _ )); done) | (simp only [flatR_int, flatR_bool, flatR_string, flatR_tuple, flatR_agg, flat_int, flat_bool, flat_string, flat_agg, flat0_int, flat0_bool, flat0_string, List.all_cons, List.all_nil, Bool.and_self, Bool.and_true, Bool.true_and]; done) | fail))) only [es, hs, gcR_some, ↓bindV_some, ↓bindS_some, ↓condB_true, bindV_some, bindS_some, ↓condK_B, bin_add, bin_mul, un_not, box_agg, cell_at, cells_at, cellOf_row, cellsOf_row, nth_zero, nth_succ, aggOf_some, eq_self, new_at, Bool.not_false, Nat.zero_add, List.length_cons, List.length_nil, List.drop_zero, List.take_succ_cons, List.take_zero, Nat.reduceAdd, ↓reduceIte, Nat.le_refl, reduceCtorEq, call_35, ld_2, fa_26_2, fa_26_3, fa_26_4, ld_26]
  · have hs' : (1 ≤ c.cycle ∧ c.cycle ≤ 1073741824) ∧ (0 ≤ c.delay ∧ c.delay ≤ 1048576) ∧ (0 ≤ c.window ∧ c.window ≤ 1048576) ∧ (0 ≤ c.prec ∧ c.prec ≤ 1048576) := by
      unfold Cfg.spans inB at hs
      simp only [Bool.and_eq_true, decide_eq_true_eq] at hs
      omega
    simp -implicitDefEqProofs (maxSteps := 1000000) (disch := (refine id ?_; first | ((fail_if_success (with_reducible apply isT_of)); (fail_if_success (first | fail)); first | (simp +arith only [new_c, new_lock, upd_c, upd_lock, relock_c, relock_lock]; done) | omega | (with_reducible apply Gd.cl; with_reducible assumption) | with_reducible exact Low.rfl' _ | (with_reducible refine Low.new ?_ _; (repeat (first | with_reducible exact Low.rfl' _ )); done) | (simp only [flatR_int, flatR_bool, flatR_string, flatR_tuple, flatR_agg, flat_int, flat_bool, flat_string, flat_agg, flat0_int, flat0_bool, flat0_string, List.all_cons, List.all_nil, Bool.and_self, Bool.and_true, Bool.true_and]; done) | fail))) only [es, hs, gcR_some, ↓bindV_some, ↓bindS_some, ↓condB_false, bindV_some, bindS_some, wrap64, ↓condK_B, bin_add, bin_mul, un_not, box_agg, cell_at, cells_at, cellOf_row, cellsOf_row, nth_zero, nth_succ, aggOf_some, eq_self, new_at, Bool.not_true, Nat.zero_add, List.length_cons, List.length_nil, List.drop_zero, List.take_succ_cons, List.take_zero, Nat.reduceAdd, ↓reduceIte, Nat.le_refl, reduceCtorEq, call_35, ld_2, fa_26_2, fa_26_3, fa_26_4, ld_26]
    refine congrArg (fun n => some (i64 n, S)) ?_
    omega
def meets (a aw b bw : Int) : Bool := decide (a < b + bw ∧ b < a + aw)
theorem rmeet_eq (g : Gd W S) (a aw b bw : Int) (ha : -9223372036854775808 ≤ a + aw ∧ a + aw < 9223372036854775808) (hb : -9223372036854775808 ≤ b + bw ∧ b + bw < 9223372036854775808) : cw W 66 #[i64 a, i64 aw, i64 b, i64 bw] S = some (.bool (meets a aw b bw), S) := by
  rw [eq66]
  have hN := g.n; have hL : S.lock ≤ S.c := g.ok.1
  have h1 : IntKind.i64.wrap (a + aw) = a + aw := wrap64 ha.1 ha.2
  have h2 : IntKind.i64.wrap (b + bw) = b + bw := wrap64 hb.1 hb.2
  simp -implicitDefEqProofs (maxSteps := 1000000) (disch := (refine id ?_; first | with_reducible assumption | ((fail_if_success (with_reducible apply isT_of)); (fail_if_success (first | fail)); first | (with_reducible apply Gd.cl; with_reducible assumption) | with_reducible exact Low.rfl' _ | (simp only [flatR_int, flatR_bool, flatR_string, flatR_tuple, flatR_agg, flat_int, flat_bool, flat_string, flat_agg, flat0_int, flat0_bool, flat0_string, List.all_cons, List.all_nil, Bool.and_self, Bool.and_true, Bool.true_and]; done) | (simp only [objLt_row, objLt_dead, List.all_cons, List.all_nil, vlt1_int, vlt1_bool, vlt1_string, vlt1_nilp, vlt1_nils, vlt1_ptr, vlt1_sl, vlt1_func, vlt0_ptr, vlt0_sl, vlt0_int, vlt0_bool, vlt0_string, vlt0_nilp, vlt0_nils, vlt_int, vlt_bool, vlt_string, vlt_nilp, vlt_nils, vlt_ptr, vlt_sl, vlt_agg, vlt_func, List.toArray, Bool.and_true, Bool.true_and, Bool.and_self, Bool.and_eq_true, decide_eq_true_eq, and_true, true_and, new_c, upd_c, relock_c]; (try omega); done) | fail))) only [h1, h2, gcR_some, ↓bindV_some, bindV_some, ↓gV_f, wV_pos, wO_val, pick_or, bin_add, bin_leq, un_not]
  refine congrArg (fun b => some (Value.bool b, S)) ?_
  unfold meets
  rw [Bool.eq_iff_iff]
  simp
  omega
theorem RTimes_eq (g : Gd W S) (c : Cfg) (q : Pl) (hq : vlt S.c (cvl c q) = true) (hs : c.spans = true) (e : En) (hp : -1125899906842624 ≤ e.ph ∧ e.ph ≤ 1125899906842624) : cw W 14 #[cvl c q, evl e] S = some (.agg #[i64 (e.ph + tm e.sz - c.prec), i64 (e.ph + tm e.sz + c.delay + c.prec), i64 (e.ph + tm e.sz + c.delay + 2 * c.prec), i64 (e.ph + tm e.sz + c.delay + 2 * c.prec + tm e.sz - c.prec), i64 (e.ph + tm e.sz + c.delay + 2 * c.prec + tm e.sz + c.delay + c.prec)], S) := by
  have hs' : (1 ≤ c.cycle ∧ c.cycle ≤ 1073741824) ∧ (0 ≤ c.delay ∧ c.delay ≤ 1048576) ∧ (0 ≤ c.window ∧ c.window ≤ 1048576) ∧ (0 ≤ c.prec ∧ c.prec ≤ 1048576) := by
    unfold Cfg.spans inB at hs
    simp only [Bool.and_eq_true, decide_eq_true_eq] at hs
    omega
  have tr := tm_rng e.sz
  rw [eq14]
  have hN := g.n; have hL : S.lock ≤ S.c := g.ok.1
  have g1 := g.new (o := .row [Value.int .i64 c.hosts, .int .i64 c.cycle, .int .i64 c.delay, .int .i64 c.window, .int .i64 c.prec, .slice q.ad c.delays.length q.cd, .slice q.ae c.entries.length q.ce, .slice q.al c.links.length q.cl, .int .i64 c.queue] 0) (objLt_mono (Nat.le_succ _) (cvl_obj hq))
  have g2 := g1.new (o := .row [Value.int .i64 e.f, .int .u32 (e.t : Int), .int .i64 e.ph, .int .i64 e.sz] 0) rfl
  have hq2 : vlt (S.c + 1 + 1) (cvl c q) = true := vlt_mono (by omega) hq
  have ha : [cvl c q, evl e].all (vlt S.c) = true := by rw [List.all_cons, hq, List.all_cons, vlt_en]; rfl
  have et := fun (U : St) (gU : Gd W U) => rtime_eq gU e.sz
  have g3 : Gd W (((S.new (.row [Value.int .i64 c.hosts, .int .i64 c.cycle, .int .i64 c.delay, .int .i64 c.window, .int .i64 c.prec, .slice q.ad c.delays.length q.cd, .slice q.ae c.entries.length q.ce, .slice q.al c.links.length q.cl, .int .i64 c.queue] 0)).new (.row [Value.int .i64 e.f, .int .u32 (e.t : Int), .int .i64 e.ph, .int .i64 e.sz] 0)).new (.row [.int .i64 0, .int .i64 0, .int .i64 0, .int .i64 0, .int .i64 0] 0)) := g2.new rfl
  have e2 : e.ph + tm e.sz + c.delay + c.prec + c.prec = e.ph + tm e.sz + c.delay + 2 * c.prec := by omega
  simp -implicitDefEqProofs (maxSteps := 1000000) (disch := (refine id ?_; first | ((fail_if_success (with_reducible apply isT_of)); (fail_if_success (first | fail)); first | (simp +arith only [new_c, new_lock, upd_c, upd_lock, relock_c, relock_lock]; done) | (refine Nat.le_trans hL ?_; simp +arith only [new_c, new_lock, upd_c, upd_lock, relock_c, relock_lock]; done) | omega | (with_reducible apply Gd.cl; with_reducible assumption) | with_reducible exact Low.rfl' _ | (with_reducible refine Low.new ?_ _; (repeat (first | with_reducible exact Low.rfl' _ | refine Low.new ?_ _ )); done) | (simp only [flatR_int, flatR_bool, flatR_string, flatR_tuple, flatR_agg, flat_int, flat_bool, flat_string, flat_agg, flat0_int, flat0_bool, flat0_string, List.all_cons, List.all_nil, Bool.and_self, Bool.and_true, Bool.true_and]; done) | fail))) only [et, e2, gcR_some, ↓bindV_some, ↓bindS_some, ↓bindT_some, bindV_some, bindS_some, bindT_some, wrap64, bin_add, bin_sub, box_agg, cell_at, cells_at, put_cons, cellOf_row, cellsOf_row, putOf_row, nth_zero, nth_succ, aggOf_some, eq_self, new_upd, new_at, new_lo, new_c, splice_nil, splice_cons, Nat.zero_add, List.length_cons, List.length_nil, List.drop_zero, List.take_succ_cons, List.take_zero, List.set_cons_zero, List.set_cons_succ, List.all_cons, List.all_nil, storable_int, Bool.and_self, Nat.reduceAdd, ↓reduceIte, Nat.le_refl, call_39, ld_2, ld_3, fa_26_2, fa_26_4, fa_32_2, fa_32_3, ld_33, st_33, al_33, bu_33_0_1_2_3_4]
theorem rhas_loop (S : St) (h : Nat) (y2 y3 y4 y6 y7 y8 y9 y10 y11 y19 y20 y21 : Value) (hh : h < 6) : ∀ (m j : Nat) (hm : m + j = h) (c : Nat) (hc : c < 4294967296),
    bindO (l67_11010 W (u32 c) (i64 h) y2 y3 y4 (i64 j) y6 y7 y8 y9 y10 y11 y19 y20 y21 S) (kc W c67 [1, 1, 0, 1, 0] f67) = some (.bool (decide (c / 2 ^ m % 2 = 1)), S)
  | 0, j, hm, c, hc => by
    have e : aBin p .rem 30 (.int .u32 (c : Int)) (.int .u32 2) = some (.int .u32 ((c % 2 : Nat) : Int)) := by rw [bin_rem _ _ _ _ (by omega)]; rfl
    have hx : ¬ ((j : Int) < h) := by omega
    rw [r67_11010]
    simp -implicitDefEqProofs (maxSteps := 1000000) (disch := (refine id ?_; first | ((fail_if_success (with_reducible apply isT_of)); first | fail))) only [hx, e, k67_11010_0, ↓bindV_some, ↓bindO_some, ↓condB_false, bindV_some, bindO_some, wrap64, ↓condK_B, bin_add, bin_lss, bin_eql, decide_false, reduceCtorEq]
    rw [Nat.pow_zero, Nat.div_one]
    refine congrArg (fun b => some (Value.bool b, S)) ?_
    rw [Bool.eq_iff_iff, decide_eq_true_iff, decide_eq_true_iff]
    omega
  | m + 1, j, hm, c, hc => by
    have e : aBin p .quo 30 (.int .u32 (c : Int)) (.int .u32 2) = some (.int .u32 ((c / 2 : Nat) : Int)) := by
      have hq : (c : Int).tdiv 2 = ((c / 2 : Nat) : Int) := rfl
      rw [bin_quo _ _ _ _ (by omega), hq, wrapu32 (by omega) (by omega)]
    have hx : (j : Int) < h := by omega
    have e2 : IntKind.i64.wrap ((j : Int) + 1) = ((j + 1 : Nat) : Int) := by rw [wrap64 (by omega) (by omega)]; omega
    rw [r67_11010]
    simp -implicitDefEqProofs (maxSteps := 1000000) (disch := (refine id ?_; first | ((fail_if_success (with_reducible apply isT_of)); first | fail))) only [hx, e, e2, ↓bindV_some, ↓condB_true, bindV_some, ↓condK_B, bin_add, bin_lss, eq_self, decide_true]
    rw [rhas_loop S h _ _ _ _ _ _ _ _ _ _ _ _ hh m (j + 1) (by omega) (c / 2) (by omega)]
    rw [Nat.div_div_eq_div_mul, ← Nat.pow_succ']
theorem rhas_eq (g : Gd W S) (c : Nat) (hc : c < 4294967296) (h : Int) : cw W 67 #[u32 c, i64 h] S = some (.bool (has c h), S) := by
  rw [eq67]
  have hN := g.n; have hL : S.lock ≤ S.c := g.ok.1
  by_cases hh : 0 ≤ h ∧ h < 6
  · obtain ⟨n, rfl⟩ := Int.eq_ofNat_of_zero_le hh.1
    have h1 : ((n : Int) < 0) = False := by simp
    have h2 : ((5 : Int) < n) = False := by simp; omega
    have e : ∀ y2 y3 y4 y6 y7 y8 y9 y10 y11 y19 y20 y21, bindO (l67_11010 W (u32 c) (i64 n) y2 y3 y4 (.int .i64 0) y6 y7 y8 y9 y10 y11 y19 y20 y21 S) (kc W c67 [1, 1, 0, 1, 0] f67) = some (.bool (decide (c / 2 ^ n % 2 = 1)), S) := by
      intro y2 y3 y4 y6 y7 y8 y9 y10 y11 y19 y20 y21
      exact rhas_loop (W := W) S n y2 y3 y4 y6 y7 y8 y9 y10 y11 y19 y20 y21 (by omega) n 0 (by omega) c hc
    simp -implicitDefEqProofs (maxSteps := 1000000) (disch := (refine id ?_; first | with_reducible assumption | ((fail_if_success (with_reducible apply isT_of)); (fail_if_success (first | fail)); first | (with_reducible apply Gd.cl; with_reducible assumption) | with_reducible exact Low.rfl' _ | (simp only [flatR_int, flatR_bool, flatR_string, flatR_tuple, flatR_agg, flat_int, flat_bool, flat_string, flat_agg, flat0_int, flat0_bool, flat0_string, List.all_cons, List.all_nil, Bool.and_self, Bool.and_true, Bool.true_and]; done) | (simp only [objLt_row, objLt_dead, List.all_cons, List.all_nil, vlt1_int, vlt1_bool, vlt1_string, vlt1_nilp, vlt1_nils, vlt1_ptr, vlt1_sl, vlt1_func, vlt0_ptr, vlt0_sl, vlt0_int, vlt0_bool, vlt0_string, vlt0_nilp, vlt0_nils, vlt_int, vlt_bool, vlt_string, vlt_nilp, vlt_nils, vlt_ptr, vlt_sl, vlt_agg, vlt_func, List.toArray, Bool.and_true, Bool.true_and, Bool.and_self, Bool.and_eq_true, decide_eq_true_eq, and_true, true_and, new_c, upd_c, relock_c]; (try omega); done) | fail))) only [h1, h2, e, gcR_some, ↓bindV_some, ↓condB_false, wV_true, bindV_some, ↓gV_f, ↓condK_B, wV_pos, wO_val, pick_bool, bin_lss, bin_gtr, decide_false, Bool.not_false, ↓reduceIte, reduceCtorEq]
    refine congrArg (fun b => some (Value.bool b, S)) ?_
    unfold has
    rw [Bool.eq_iff_iff, decide_eq_true_iff, decide_eq_true_iff, Int.toNat_natCast]
    omega
  · have e : has c h = false := by unfold has; exact decide_eq_false (by omega)
    rw [e]
    by_cases h0 : h < 0
    · have h1 : (h < 0) = True := eq_true h0
      simp -implicitDefEqProofs (maxSteps := 1000000) (disch := (refine id ?_; first | with_reducible assumption | ((fail_if_success (with_reducible apply isT_of)); (fail_if_success (first | fail)); first | (with_reducible apply Gd.cl; with_reducible assumption) | with_reducible exact Low.rfl' _ | (simp only [flatR_int, flatR_bool, flatR_string, flatR_tuple, flatR_agg, flat_int, flat_bool, flat_string, flat_agg, flat0_int, flat0_bool, flat0_string, List.all_cons, List.all_nil, Bool.and_self, Bool.and_true, Bool.true_and]; done) | (simp only [objLt_row, objLt_dead, List.all_cons, List.all_nil, vlt1_int, vlt1_bool, vlt1_string, vlt1_nilp, vlt1_nils, vlt1_ptr, vlt1_sl, vlt1_func, vlt0_ptr, vlt0_sl, vlt0_int, vlt0_bool, vlt0_string, vlt0_nilp, vlt0_nils, vlt_int, vlt_bool, vlt_string, vlt_nilp, vlt_nils, vlt_ptr, vlt_sl, vlt_agg, vlt_func, List.toArray, Bool.and_true, Bool.true_and, Bool.and_self, Bool.and_eq_true, decide_eq_true_eq, and_true, true_and, new_c, upd_c, relock_c]; (try omega); done) | fail))) only [h1, gcR_some, ↓bindV_some, ↓condB_true, wV_false, bindV_some, ↓gV_f, ↓condK_B, wV_pos, wO_val, bin_lss, bin_gtr, pick_true, eq_self, decide_true, Bool.not_true]
    · have h1 : (h < 0) = False := eq_false h0
      have h2 : ((5 : Int) < h) = True := eq_true (by omega)
      simp -implicitDefEqProofs (maxSteps := 1000000) (disch := (refine id ?_; first | with_reducible assumption | ((fail_if_success (with_reducible apply isT_of)); (fail_if_success (first | fail)); first | (with_reducible apply Gd.cl; with_reducible assumption) | with_reducible exact Low.rfl' _ | (simp only [flatR_int, flatR_bool, flatR_string, flatR_tuple, flatR_agg, flat_int, flat_bool, flat_string, flat_agg, flat0_int, flat0_bool, flat0_string, List.all_cons, List.all_nil, Bool.and_self, Bool.and_true, Bool.true_and]; done) | (simp only [objLt_row, objLt_dead, List.all_cons, List.all_nil, vlt1_int, vlt1_bool, vlt1_string, vlt1_nilp, vlt1_nils, vlt1_ptr, vlt1_sl, vlt1_func, vlt0_ptr, vlt0_sl, vlt0_int, vlt0_bool, vlt0_string, vlt0_nilp, vlt0_nils, vlt_int, vlt_bool, vlt_string, vlt_nilp, vlt_nils, vlt_ptr, vlt_sl, vlt_agg, vlt_func, List.toArray, Bool.and_true, Bool.true_and, Bool.and_self, Bool.and_eq_true, decide_eq_true_eq, and_true, true_and, new_c, upd_c, relock_c]; (try omega); done) | fail))) only [h1, h2, gcR_some, ↓bindV_some, ↓condB_true, wV_true, bindV_some, ↓gV_f, ↓condK_B, wV_pos, wO_val, pick_bool, bin_lss, bin_gtr, eq_self, decide_true, decide_false, Bool.not_false, ↓reduceIte, reduceCtorEq]
end
end Go.Proofs.Ytogcdgdnjinjkaa.F
end
section
namespace Go.Proofs.Ytogcdgdnjinjkaa.F
open Go Go.Proofs.Ytogcdgdnjinjkaa.E
set_option linter.unusedVariables false
set_option linter.unusedSimpArgs false
structure Sv where
  a : Option Addr
  n : Nat
  c : Nat
  l : List Int
def NT : Enc En := ⟨fun e => [.int .i64 e.f, .int .u32 (e.t : Int), .int .i64 e.ph, .int .i64 e.sz], 4, by omega, fun _ => rfl, fun _ => rfl⟩
def KT : Enc Lk := ⟨fun e => [.int .i64 e.f, .int .u32 (e.t : Int), .int .i64 e.gap, .int .i64 e.sz], 4, by omega, fun _ => rfl, fun _ => rfl⟩
def IT : Enc Int := ⟨fun n => [.int .i64 n], 1, by omega, fun _ => rfl, fun _ => rfl⟩
def VT : Enc Sv := ⟨fun s => [.slice s.a s.n s.c], 1, by omega, fun _ => rfl, fun _ => rfl⟩
def idxF {α : Type} (q : α → Bool) : List α → Nat → Int
  | [], _ => -1
  | x :: l, j => if q x then j else idxF q l (j + 1)
theorem idxF_any {α : Type} (q : α → Bool) : ∀ (l : List α) (j : Nat), (0 ≤ idxF q l j) = (l.any q = true)
  | [], j => by simp [idxF]
  | x :: l, j => by
    rw [idxF, List.any_cons]
    cases h : q x
    · simp only [Bool.false_eq_true, if_false, Bool.false_or]
      exact idxF_any q l (j + 1)
    · simp
section
variable {W : World} {S : St}
theorem idx_loopN (fv : Value) (l : List En) (hlen : l.length ≤ 2 ^ 60) (q : En → Bool) (g : Gd W S) {v : Value} (rd : Rd NT W S v l) (hf : ∀ x ∈ l, aCall p (cw W) S fv #[.agg #[.int .i64 x.f, .int .u32 (x.t : Int), .int .i64 x.ph, .int .i64 x.sz]] = some (.bool (q x), S)) (y2 y3 y6 : Value) : ∀ (n j : Nat) (hn : n + j = l.length),
    bindO (l70_1010 W v fv y2 y3 y6 (.int .i64 l.length) (.int .i64 j) S) (kc W c70 [1, 0, 1, 0] f70) = some (i64 (idxF q (l.drop j) j), S)
  | 0, j, hn => by
    have hx : ¬ ((j : Int) < l.length) := by omega
    rw [List.drop_eq_nil_of_le (by omega), idxF, r70_1010]
    simp -implicitDefEqProofs (maxSteps := 1000000) (disch := (refine id ?_; first | ((fail_if_success (with_reducible apply isT_of)); (fail_if_success (first | fail)); first | omega | fail))) only [hx, k70_1010_0, ↓bindV_some, ↓bindO_some, ↓condB_false, bindV_some, bindO_some, wrap64, ↓condK_B, bin_add, bin_lss, eq_self, decide_false, Int.reduceNeg, reduceCtorEq]
  | n + 1, j, hn => by
    have hj : j < l.length := by omega
    have hx : (j : Int) < l.length := by omega
    have e2 : IntKind.i64.wrap ((j : Int) + 1) = ((j + 1 : Nat) : Int) := by rw [wrap64 (by omega) (by omega)]; omega
    have ih := idx_loopN fv l hlen q g rd hf y2 y3 y6 n (j + 1) (by omega)
    obtain ⟨b, o, cp, rfl, hb, hr⟩ := rd.at (by omega)
    have e5 := (hr j hj).1
    have hfx := hf l[j] (List.getElem_mem hj)
    rw [List.drop_eq_getElem_cons hj, idxF]
    generalize l[j] = x at *
    rw [r70_1010]
    rw [show NT.k = 4 from rfl, show NT.cs x = [.int .i64 x.f, .int .u32 (x.t : Int), .int .i64 x.ph, .int .i64 x.sz] from rfl] at e5
    cases hq : q x
    · rw [hq] at hfx
      simp -implicitDefEqProofs (maxSteps := 1000000) (disch := (refine id ?_; first | ((fail_if_success (with_reducible apply isT_of)); (fail_if_success (first | fail)); first | omega | fail))) only [hx, e2, e5, hfx, ↓bindV_some, ↓bindS_some, ↓condB_true, ↓condB_false, bindV_some, bindS_some, ↓condK_B, bin_add, bin_lss, aggOf_some, eq_self, decide_true, Int.toNat_natCast, ↓reduceIte, reduceCtorEq, ix_23, ld_32]
      exact ih
    · rw [hq] at hfx
      simp -implicitDefEqProofs (maxSteps := 1000000) (disch := (refine id ?_; first | ((fail_if_success (with_reducible apply isT_of)); (fail_if_success (first | fail)); first | omega | fail))) only [hx, e2, e5, hfx, k70_1010_ret, ↓bindV_some, ↓bindS_some, ↓bindO_some, ↓condB_true, bindV_some, bindS_some, bindO_some, ↓condK_B, bin_add, bin_lss, aggOf_some, eq_self, decide_true, Int.toNat_natCast, ↓reduceIte, ix_23, ld_32]
theorem anyN (g : Gd W S) (fv : Value) (hv : vlt S.c fv = true) (l : List En) (hlen : l.length ≤ 2 ^ 60) (q : En → Bool) {v : Value} (rd : Rd NT W S v l) (hf : ∀ x ∈ l, aCall p (cw W) S fv #[.agg #[.int .i64 x.f, .int .u32 (x.t : Int), .int .i64 x.ph, .int .i64 x.sz]] = some (.bool (q x), S)) : cw W 56 #[v, fv] S = some (.bool (l.any q), S) := by
  have hs : vlt S.c v = true := by
    obtain ⟨a, c, rfl⟩ := rd.form
    have := rd.vlt
    cases a <;> exact this
  have ha : [v, fv].all (vlt S.c) = true := by rw [List.all_cons, hs, List.all_cons, hv]; rfl
  have e : cw W 70 #[v, fv] S = some (i64 (idxF q l 0), S) := by
    have el : ∀ y2 y3 y6, bindO (l70_1010 W v fv y2 y3 y6 (.int .i64 l.length) (.int .i64 0) S) (kc W c70 [1, 0, 1, 0] f70) = some (i64 (idxF q l 0), S) := fun y2 y3 y6 => idx_loopN fv l hlen q g rd hf y2 y3 y6 l.length 0 rfl
    rw [eq70]
    have hN := g.n; have hL : S.lock ≤ S.c := g.ok.1
    obtain ⟨a, c, rfl⟩ := rd.form
    simp -implicitDefEqProofs (maxSteps := 1000000) (disch := (refine id ?_; first | ((fail_if_success (with_reducible apply isT_of)); (fail_if_success (first | fail)); first | omega | (with_reducible apply Gd.cl; with_reducible assumption) | with_reducible exact Low.rfl' _ | (simp only [flatR_int, flatR_bool, flatR_string, flatR_tuple, flatR_agg, flat_int, flat_bool, flat_string, flat_agg, flat0_int, flat0_bool, flat0_string, List.all_cons, List.all_nil, Bool.and_self, Bool.and_true, Bool.true_and]; done) | fail))) only [el, gcR_some, ↓bindV_some, bindV_some, eq_self, len_23]
  rw [eq56]
  have hN := g.n; have hL : S.lock ≤ S.c := g.ok.1
  simp -implicitDefEqProofs (maxSteps := 1000000) (disch := (refine id ?_; first | ((fail_if_success (with_reducible apply isT_of)); (fail_if_success (first | fail)); first | omega | (with_reducible apply Gd.cl; with_reducible assumption) | with_reducible exact Low.rfl' _ | (simp only [flatR_int, flatR_bool, flatR_string, flatR_tuple, flatR_agg, flat_int, flat_bool, flat_string, flat_agg, flat0_int, flat0_bool, flat0_string, List.all_cons, List.all_nil, Bool.and_self, Bool.and_true, Bool.true_and]; done) | fail))) only [e, gcR_some, ↓bindV_some, ↓bindS_some, bindV_some, bindS_some, bin_geq, call_70]
  refine congrArg (fun b => some (Value.bool b, S)) ?_
  rw [Bool.eq_iff_iff, decide_eq_true_iff, idxF_any]
theorem idx_loopK (fv : Value) (l : List Lk) (hlen : l.length ≤ 2 ^ 60) (q : Lk → Bool) (g : Gd W S) {v : Value} (rd : Rd KT W S v l) (hf : ∀ x ∈ l, aCall p (cw W) S fv #[.agg #[.int .i64 x.f, .int .u32 (x.t : Int), .int .i64 x.gap, .int .i64 x.sz]] = some (.bool (q x), S)) (y2 y3 y6 : Value) : ∀ (n j : Nat) (hn : n + j = l.length),
    bindO (l63_1010 W v fv y2 y3 y6 (.int .i64 l.length) (.int .i64 j) S) (kc W c63 [1, 0, 1, 0] f63) = some (i64 (idxF q (l.drop j) j), S)
  | 0, j, hn => by
    have hx : ¬ ((j : Int) < l.length) := by omega
    rw [List.drop_eq_nil_of_le (by omega), idxF, r63_1010]
    simp -implicitDefEqProofs (maxSteps := 1000000) (disch := (refine id ?_; first | ((fail_if_success (with_reducible apply isT_of)); (fail_if_success (first | fail)); first | omega | fail))) only [hx, k63_1010_0, ↓bindV_some, ↓bindO_some, ↓condB_false, bindV_some, bindO_some, wrap64, ↓condK_B, bin_add, bin_lss, eq_self, decide_false, Int.reduceNeg, reduceCtorEq]
  | n + 1, j, hn => by
    have hj : j < l.length := by omega
    have hx : (j : Int) < l.length := by omega
    have e2 : IntKind.i64.wrap ((j : Int) + 1) = ((j + 1 : Nat) : Int) := by rw [wrap64 (by omega) (by omega)]; omega
    have ih := idx_loopK fv l hlen q g rd hf y2 y3 y6 n (j + 1) (by omega)
    obtain ⟨b, o, cp, rfl, hb, hr⟩ := rd.at (by omega)
    have e5 := (hr j hj).1
    have hfx := hf l[j] (List.getElem_mem hj)
    rw [List.drop_eq_getElem_cons hj, idxF]
    generalize l[j] = x at *
    rw [r63_1010]
    rw [show KT.k = 4 from rfl, show KT.cs x = [.int .i64 x.f, .int .u32 (x.t : Int), .int .i64 x.gap, .int .i64 x.sz] from rfl] at e5
    cases hq : q x
    · rw [hq] at hfx
      simp -implicitDefEqProofs (maxSteps := 1000000) (disch := (refine id ?_; first | ((fail_if_success (with_reducible apply isT_of)); (fail_if_success (first | fail)); first | omega | fail))) only [hx, e2, e5, hfx, ↓bindV_some, ↓bindS_some, ↓condB_true, ↓condB_false, bindV_some, bindS_some, ↓condK_B, bin_add, bin_lss, aggOf_some, eq_self, decide_true, Int.toNat_natCast, ↓reduceIte, reduceCtorEq, ix_24, ld_47]
      exact ih
    · rw [hq] at hfx
      simp -implicitDefEqProofs (maxSteps := 1000000) (disch := (refine id ?_; first | ((fail_if_success (with_reducible apply isT_of)); (fail_if_success (first | fail)); first | omega | fail))) only [hx, e2, e5, hfx, k63_1010_ret, ↓bindV_some, ↓bindS_some, ↓bindO_some, ↓condB_true, bindV_some, bindS_some, bindO_some, ↓condK_B, bin_add, bin_lss, aggOf_some, eq_self, decide_true, Int.toNat_natCast, ↓reduceIte, ix_24, ld_47]
theorem anyK (g : Gd W S) (fv : Value) (hv : vlt S.c fv = true) (l : List Lk) (hlen : l.length ≤ 2 ^ 60) (q : Lk → Bool) {v : Value} (rd : Rd KT W S v l) (hf : ∀ x ∈ l, aCall p (cw W) S fv #[.agg #[.int .i64 x.f, .int .u32 (x.t : Int), .int .i64 x.gap, .int .i64 x.sz]] = some (.bool (q x), S)) : cw W 32 #[v, fv] S = some (.bool (l.any q), S) := by
  have hs : vlt S.c v = true := by
    obtain ⟨a, c, rfl⟩ := rd.form
    have := rd.vlt
    cases a <;> exact this
  have ha : [v, fv].all (vlt S.c) = true := by rw [List.all_cons, hs, List.all_cons, hv]; rfl
  have e : cw W 63 #[v, fv] S = some (i64 (idxF q l 0), S) := by
    have el : ∀ y2 y3 y6, bindO (l63_1010 W v fv y2 y3 y6 (.int .i64 l.length) (.int .i64 0) S) (kc W c63 [1, 0, 1, 0] f63) = some (i64 (idxF q l 0), S) := fun y2 y3 y6 => idx_loopK fv l hlen q g rd hf y2 y3 y6 l.length 0 rfl
    rw [eq63]
    have hN := g.n; have hL : S.lock ≤ S.c := g.ok.1
    obtain ⟨a, c, rfl⟩ := rd.form
    simp -implicitDefEqProofs (maxSteps := 1000000) (disch := (refine id ?_; first | ((fail_if_success (with_reducible apply isT_of)); (fail_if_success (first | fail)); first | omega | (with_reducible apply Gd.cl; with_reducible assumption) | with_reducible exact Low.rfl' _ | (simp only [flatR_int, flatR_bool, flatR_string, flatR_tuple, flatR_agg, flat_int, flat_bool, flat_string, flat_agg, flat0_int, flat0_bool, flat0_string, List.all_cons, List.all_nil, Bool.and_self, Bool.and_true, Bool.true_and]; done) | fail))) only [el, gcR_some, ↓bindV_some, bindV_some, eq_self, len_24]
  rw [eq32]
  have hN := g.n; have hL : S.lock ≤ S.c := g.ok.1
  simp -implicitDefEqProofs (maxSteps := 1000000) (disch := (refine id ?_; first | ((fail_if_success (with_reducible apply isT_of)); (fail_if_success (first | fail)); first | omega | (with_reducible apply Gd.cl; with_reducible assumption) | with_reducible exact Low.rfl' _ | (simp only [flatR_int, flatR_bool, flatR_string, flatR_tuple, flatR_agg, flat_int, flat_bool, flat_string, flat_agg, flat0_int, flat0_bool, flat0_string, List.all_cons, List.all_nil, Bool.and_self, Bool.and_true, Bool.true_and]; done) | fail))) only [e, gcR_some, ↓bindV_some, ↓bindS_some, bindV_some, bindS_some, bin_geq, call_63]
  refine congrArg (fun b => some (Value.bool b, S)) ?_
  rw [Bool.eq_iff_iff, decide_eq_true_iff, idxF_any]
theorem idx_loopI (fv : Value) (l : List Int) (hlen : l.length ≤ 2 ^ 60) (q : Int → Bool) (g : Gd W S) {v : Value} (rd : Rd IT W S v l) (hf : ∀ x ∈ l, aCall p (cw W) S fv #[.int .i64 x] = some (.bool (q x), S)) (y2 y3 y6 : Value) : ∀ (n j : Nat) (hn : n + j = l.length),
    bindO (l69_1010 W v fv y2 y3 y6 (.int .i64 l.length) (.int .i64 j) S) (kc W c69 [1, 0, 1, 0] f69) = some (i64 (idxF q (l.drop j) j), S)
  | 0, j, hn => by
    have hx : ¬ ((j : Int) < l.length) := by omega
    rw [List.drop_eq_nil_of_le (by omega), idxF, r69_1010]
    simp -implicitDefEqProofs (maxSteps := 1000000) (disch := (refine id ?_; first | ((fail_if_success (with_reducible apply isT_of)); (fail_if_success (first | fail)); first | omega | fail))) only [hx, k69_1010_0, ↓bindV_some, ↓bindO_some, ↓condB_false, bindV_some, bindO_some, wrap64, ↓condK_B, bin_add, bin_lss, eq_self, decide_false, Int.reduceNeg, reduceCtorEq]
  | n + 1, j, hn => by
    have hj : j < l.length := by omega
    have hx : (j : Int) < l.length := by omega
    have e2 : IntKind.i64.wrap ((j : Int) + 1) = ((j + 1 : Nat) : Int) := by rw [wrap64 (by omega) (by omega)]; omega
    have ih := idx_loopI fv l hlen q g rd hf y2 y3 y6 n (j + 1) (by omega)
    obtain ⟨b, o, cp, rfl, hb, hr⟩ := rd.at (by omega)
    have e5 := (hr j hj).2 0 (by decide)
    have hfx := hf l[j] (List.getElem_mem hj)
    rw [List.drop_eq_getElem_cons hj, idxF]
    generalize l[j] = x at *
    rw [r69_1010]
    rw [show IT.k = 1 from rfl, show IT.cs x = [.int .i64 x] from rfl, Nat.mul_one, Nat.add_zero, nth_zero] at e5
    cases hq : q x
    · rw [hq] at hfx
      simp -implicitDefEqProofs (maxSteps := 1000000) (disch := (refine id ?_; first | ((fail_if_success (with_reducible apply isT_of)); (fail_if_success (first | fail)); first | omega | fail))) only [hx, e2, e5, hfx, ↓bindV_some, ↓bindS_some, ↓condB_true, ↓condB_false, bindV_some, bindS_some, ↓condK_B, bin_add, bin_lss, eq_self, decide_true, Int.toNat_natCast, Nat.mul_one, ↓reduceIte, reduceCtorEq, ld_2, ix_45]
      exact ih
    · rw [hq] at hfx
      simp -implicitDefEqProofs (maxSteps := 1000000) (disch := (refine id ?_; first | ((fail_if_success (with_reducible apply isT_of)); (fail_if_success (first | fail)); first | omega | fail))) only [hx, e2, e5, hfx, k69_1010_ret, ↓bindV_some, ↓bindS_some, ↓bindO_some, ↓condB_true, bindV_some, bindS_some, bindO_some, ↓condK_B, bin_add, bin_lss, eq_self, decide_true, Int.toNat_natCast, Nat.mul_one, ↓reduceIte, ld_2, ix_45]
theorem anyI (g : Gd W S) (fv : Value) (hv : vlt S.c fv = true) (l : List Int) (hlen : l.length ≤ 2 ^ 60) (q : Int → Bool) {v : Value} (rd : Rd IT W S v l) (hf : ∀ x ∈ l, aCall p (cw W) S fv #[.int .i64 x] = some (.bool (q x), S)) : cw W 52 #[v, fv] S = some (.bool (l.any q), S) := by
  have hs : vlt S.c v = true := by
    obtain ⟨a, c, rfl⟩ := rd.form
    have := rd.vlt
    cases a <;> exact this
  have ha : [v, fv].all (vlt S.c) = true := by rw [List.all_cons, hs, List.all_cons, hv]; rfl
  have e : cw W 69 #[v, fv] S = some (i64 (idxF q l 0), S) := by
    have el : ∀ y2 y3 y6, bindO (l69_1010 W v fv y2 y3 y6 (.int .i64 l.length) (.int .i64 0) S) (kc W c69 [1, 0, 1, 0] f69) = some (i64 (idxF q l 0), S) := fun y2 y3 y6 => idx_loopI fv l hlen q g rd hf y2 y3 y6 l.length 0 rfl
    rw [eq69]
    have hN := g.n; have hL : S.lock ≤ S.c := g.ok.1
    obtain ⟨a, c, rfl⟩ := rd.form
    simp -implicitDefEqProofs (maxSteps := 1000000) (disch := (refine id ?_; first | ((fail_if_success (with_reducible apply isT_of)); (fail_if_success (first | fail)); first | omega | (with_reducible apply Gd.cl; with_reducible assumption) | with_reducible exact Low.rfl' _ | (simp only [flatR_int, flatR_bool, flatR_string, flatR_tuple, flatR_agg, flat_int, flat_bool, flat_string, flat_agg, flat0_int, flat0_bool, flat0_string, List.all_cons, List.all_nil, Bool.and_self, Bool.and_true, Bool.true_and]; done) | fail))) only [el, gcR_some, ↓bindV_some, bindV_some, eq_self, len_45]
  rw [eq52]
  have hN := g.n; have hL : S.lock ≤ S.c := g.ok.1
  simp -implicitDefEqProofs (maxSteps := 1000000) (disch := (refine id ?_; first | ((fail_if_success (with_reducible apply isT_of)); (fail_if_success (first | fail)); first | omega | (with_reducible apply Gd.cl; with_reducible assumption) | with_reducible exact Low.rfl' _ | (simp only [flatR_int, flatR_bool, flatR_string, flatR_tuple, flatR_agg, flat_int, flat_bool, flat_string, flat_agg, flat0_int, flat0_bool, flat0_string, List.all_cons, List.all_nil, Bool.and_self, Bool.and_true, Bool.true_and]; done) | fail))) only [e, gcR_some, ↓bindV_some, ↓bindS_some, bindV_some, bindS_some, bin_geq, call_69]
  refine congrArg (fun b => some (Value.bool b, S)) ?_
  rw [Bool.eq_iff_iff, decide_eq_true_iff, idxF_any]
theorem idx_loopV (fv : Value) (l : List Sv) (hlen : l.length ≤ 2 ^ 60) (q : Sv → Bool) (g : Gd W S) {v : Value} (rd : Rd VT W S v l) (hf : ∀ x ∈ l, aCall p (cw W) S fv #[.slice x.a x.n x.c] = some (.bool (q x), S)) (y2 y3 y6 : Value) : ∀ (n j : Nat) (hn : n + j = l.length),
    bindO (l68_1010 W v fv y2 y3 y6 (.int .i64 l.length) (.int .i64 j) S) (kc W c68 [1, 0, 1, 0] f68) = some (i64 (idxF q (l.drop j) j), S)
  | 0, j, hn => by
    have hx : ¬ ((j : Int) < l.length) := by omega
    rw [List.drop_eq_nil_of_le (by omega), idxF, r68_1010]
    simp -implicitDefEqProofs (maxSteps := 1000000) (disch := (refine id ?_; first | ((fail_if_success (with_reducible apply isT_of)); (fail_if_success (first | fail)); first | omega | fail))) only [hx, k68_1010_0, ↓bindV_some, ↓bindO_some, ↓condB_false, bindV_some, bindO_some, wrap64, ↓condK_B, bin_add, bin_lss, eq_self, decide_false, Int.reduceNeg, reduceCtorEq]
  | n + 1, j, hn => by
    have hj : j < l.length := by omega
    have hx : (j : Int) < l.length := by omega
    have e2 : IntKind.i64.wrap ((j : Int) + 1) = ((j + 1 : Nat) : Int) := by rw [wrap64 (by omega) (by omega)]; omega
    have ih := idx_loopV fv l hlen q g rd hf y2 y3 y6 n (j + 1) (by omega)
    obtain ⟨b, o, cp, rfl, hb, hr⟩ := rd.at (by omega)
    have e5 := (hr j hj).2 0 (by decide)
    have hfx := hf l[j] (List.getElem_mem hj)
    rw [List.drop_eq_getElem_cons hj, idxF]
    generalize l[j] = x at *
    rw [r68_1010]
    rw [show VT.k = 1 from rfl, show VT.cs x = [.slice x.a x.n x.c] from rfl, Nat.mul_one, Nat.add_zero, nth_zero] at e5
    cases hq : q x
    · rw [hq] at hfx
      simp -implicitDefEqProofs (maxSteps := 1000000) (disch := (refine id ?_; first | ((fail_if_success (with_reducible apply isT_of)); (fail_if_success (first | fail)); first | omega | fail))) only [hx, e2, e5, hfx, ↓bindV_some, ↓bindS_some, ↓condB_true, ↓condB_false, bindV_some, bindS_some, ↓condK_B, bin_add, bin_lss, eq_self, decide_true, Int.toNat_natCast, Nat.mul_one, ↓reduceIte, reduceCtorEq, ix_22, ld_45]
      exact ih
    · rw [hq] at hfx
      simp -implicitDefEqProofs (maxSteps := 1000000) (disch := (refine id ?_; first | ((fail_if_success (with_reducible apply isT_of)); (fail_if_success (first | fail)); first | omega | fail))) only [hx, e2, e5, hfx, k68_1010_ret, ↓bindV_some, ↓bindS_some, ↓bindO_some, ↓condB_true, bindV_some, bindS_some, bindO_some, ↓condK_B, bin_add, bin_lss, eq_self, decide_true, Int.toNat_natCast, Nat.mul_one, ↓reduceIte, ix_22, ld_45]
theorem anyV (g : Gd W S) (fv : Value) (hv : vlt S.c fv = true) (l : List Sv) (hlen : l.length ≤ 2 ^ 60) (q : Sv → Bool) {v : Value} (rd : Rd VT W S v l) (hf : ∀ x ∈ l, aCall p (cw W) S fv #[.slice x.a x.n x.c] = some (.bool (q x), S)) : cw W 50 #[v, fv] S = some (.bool (l.any q), S) := by
  have hs : vlt S.c v = true := by
    obtain ⟨a, c, rfl⟩ := rd.form
    have := rd.vlt
    cases a <;> exact this
  have ha : [v, fv].all (vlt S.c) = true := by rw [List.all_cons, hs, List.all_cons, hv]; rfl
  have e : cw W 68 #[v, fv] S = some (i64 (idxF q l 0), S) := by
    have el : ∀ y2 y3 y6, bindO (l68_1010 W v fv y2 y3 y6 (.int .i64 l.length) (.int .i64 0) S) (kc W c68 [1, 0, 1, 0] f68) = some (i64 (idxF q l 0), S) := fun y2 y3 y6 => idx_loopV fv l hlen q g rd hf y2 y3 y6 l.length 0 rfl
    rw [eq68]
    have hN := g.n; have hL : S.lock ≤ S.c := g.ok.1
    obtain ⟨a, c, rfl⟩ := rd.form
    simp -implicitDefEqProofs (maxSteps := 1000000) (disch := (refine id ?_; first | ((fail_if_success (with_reducible apply isT_of)); (fail_if_success (first | fail)); first | omega | (with_reducible apply Gd.cl; with_reducible assumption) | with_reducible exact Low.rfl' _ | (simp only [flatR_int, flatR_bool, flatR_string, flatR_tuple, flatR_agg, flat_int, flat_bool, flat_string, flat_agg, flat0_int, flat0_bool, flat0_string, List.all_cons, List.all_nil, Bool.and_self, Bool.and_true, Bool.true_and]; done) | fail))) only [el, gcR_some, ↓bindV_some, bindV_some, eq_self, len_22]
  rw [eq50]
  have hN := g.n; have hL : S.lock ≤ S.c := g.ok.1
  simp -implicitDefEqProofs (maxSteps := 1000000) (disch := (refine id ?_; first | ((fail_if_success (with_reducible apply isT_of)); (fail_if_success (first | fail)); first | omega | (with_reducible apply Gd.cl; with_reducible assumption) | with_reducible exact Low.rfl' _ | (simp only [flatR_int, flatR_bool, flatR_string, flatR_tuple, flatR_agg, flat_int, flat_bool, flat_string, flat_agg, flat0_int, flat0_bool, flat0_string, List.all_cons, List.all_nil, Bool.and_self, Bool.and_true, Bool.true_and]; done) | fail))) only [e, gcR_some, ↓bindV_some, ↓bindS_some, bindV_some, bindS_some, bin_geq, call_68]
  refine congrArg (fun b => some (Value.bool b, S)) ?_
  rw [Bool.eq_iff_iff, decide_eq_true_iff, idxF_any]
end
end Go.Proofs.Ytogcdgdnjinjkaa.F
end
section
namespace Go.Proofs.Ytogcdgdnjinjkaa.F
open Go Go.Proofs.Ytogcdgdnjinjkaa.E
set_option linter.unusedVariables false
set_option linter.unusedSimpArgs false
abbrev ccs (c : Cfg) (q : Pl) : List Value := [.int .i64 c.hosts, .int .i64 c.cycle, .int .i64 c.delay, .int .i64 c.window, .int .i64 c.prec, .slice q.ad c.delays.length q.cd, .slice q.ae c.entries.length q.ce, .slice q.al c.links.length q.cl, .int .i64 c.queue]
structure CfgAt (W : World) (S : St) (c : Cfg) (q : Pl) : Prop where
  del : ∃ svs : List Sv, Rd VT W S (.slice q.ad c.delays.length q.cd) svs ∧ svs.map (·.l) = c.delays ∧ ∀ s ∈ svs, Rd IT W S (.slice s.a s.n s.c) s.l
  ent : Rd NT W S (.slice q.ae c.entries.length q.ce) c.entries
  lnk : Rd KT W S (.slice q.al c.links.length q.cl) c.links
  ld : c.delays.length ≤ 2 ^ 60
  ldd : ∀ l ∈ c.delays, l.length ≤ 2 ^ 60
  le : c.entries.length ≤ 2 ^ 60
  ll : c.links.length ≤ 2 ^ 60
  et : ∀ e ∈ c.entries, e.t < 4294967296
  lt : ∀ e ∈ c.links, e.t < 4294967296
theorem CfgAt.low {W : World} {S S' : St} {c : Cfg} {q : Pl} (h : CfgAt W S c q) (k : Low S S') : CfgAt W S' c q := by
  obtain ⟨svs, h1, h2, h3⟩ := h.del
  exact ⟨⟨svs, h1.low k, h2, fun s hs => (h3 s hs).low k⟩, h.ent.low k, h.lnk.low k, h.ld, h.ldd, h.le, h.ll, h.et, h.lt⟩
theorem CfgAt.vlt {W : World} {S : St} {c : Cfg} {q : Pl} (h : CfgAt W S c q) : vlt S.c (cvl c q) = true := by
  obtain ⟨svs, h1, _⟩ := h.del
  have a := h1.vlt
  have b := h.ent.vlt
  have d := h.lnk.vlt
  rw [vlt_agg]
  simp only [List.all_cons, List.all_nil, vlt1_int, a, b, d, Bool.and_self]
theorem slice_len {α : Type} {T : Enc α} {W : World} {S : St} {a : Option Addr} {n c : Nat} {l : List α} (h : Rd T W S (.slice a n c) l) : n = l.length := by
  obtain ⟨a', c', e⟩ := h.form
  injection e
def rowBad (c : Cfg) (l : List Int) : Bool := decide (l.length ≠ 2) || l.any fun n => !inB n 0 c.delay
def rowsOk (c : Cfg) : Bool := decide ((c.delays.length : Int) = c.hosts) && !c.delays.any (rowBad c)
section
variable {W : World} {S : St}
theorem low_row_eq (g : Gd W S) (c : Cfg) (q : Pl) {bc : Nat} (hb : S.heap bc = .row (ccs c q) 0) (hW : W.heap.size ≤ bc) (n : Int) : cw W 53 #[i64 n, .pointer (some ⟨bc, 0, none⟩)] S = some (.bool (!inB n 0 c.delay), S) := by
  have hlt := row_lt g.ok hb
  rw [eq53]
  have hN := g.n; have hL : S.lock ≤ S.c := g.ok.1
  have ei := in_eq g n 0 c.delay
  simp -implicitDefEqProofs (maxSteps := 1000000) (disch := (refine id ?_; first | ((fail_if_success (with_reducible apply isT_of)); (fail_if_success (first | fail)); first | omega | (with_reducible apply Gd.cl; with_reducible assumption) | with_reducible exact Low.rfl' _ | (simp only [flatR_int, flatR_bool, flatR_string, flatR_tuple, flatR_agg, flat_int, flat_bool, flat_string, flat_agg, flat0_int, flat0_bool, flat0_string, List.all_cons, List.all_nil, Bool.and_self, Bool.and_true, Bool.true_and]; done) | (simp only [objLt_row, objLt_dead, List.all_cons, List.all_nil, vlt1_int, vlt1_bool, vlt1_string, vlt1_nilp, vlt1_nils, vlt1_ptr, vlt1_sl, vlt1_func, vlt0_ptr, vlt0_sl, vlt0_int, vlt0_bool, vlt0_string, vlt0_nilp, vlt0_nils, vlt_int, vlt_bool, vlt_string, vlt_nilp, vlt_nils, vlt_ptr, vlt_sl, vlt_agg, vlt_func, List.toArray, Bool.and_true, Bool.true_and, Bool.and_self, Bool.and_eq_true, decide_eq_true_eq, and_true, true_and, new_c, upd_c, relock_c]; (try omega); done) | fail))) only [hb, ei, gcR_some, ↓bindV_some, ↓bindS_some, bindV_some, bindS_some, un_not, cell_at, cellOf_row, nth_zero, nth_succ, eq_self, and_true, true_and, Nat.zero_add, Bool.and_true, Bool.true_and, Nat.reduceAdd, Nat.reduceSub, Nat.reduceMul, Nat.reduceLeDiff, Nat.reduceLT, Nat.reduceEqDiff, Int.reduceLE, Int.reduceLT, Int.reduceAdd, Int.reduceNeg, Int.reduceEq, Int.reduceSub, Int.reduceMul, Int.reduceToNat, ↓reduceIte, decide_eq_true_eq, reduceCtorEq, call_28, ld_2, fa_26_2]
theorem row_eq (g : Gd W S) (c : Cfg) (q : Pl) {bc : Nat} (hb : S.heap bc = .row (ccs c q) 0) (hW : W.heap.size ≤ bc) (s : Sv) (rd : Rd IT W S (.slice s.a s.n s.c) s.l) (hl : s.l.length ≤ 2 ^ 60) : cw W 51 #[.slice s.a s.n s.c, .pointer (some ⟨bc, 0, none⟩)] S = some (.bool (rowBad c s.l), S) := by
  have hlt := row_lt g.ok hb
  have hn := slice_len rd
  have hcl : ∀ x : Int, aCall p (cw W) S (.func (.func 53) #[] #[.pointer (some ⟨bc, 0, none⟩)]) #[.int .i64 x] = some (.bool (!inB x 0 c.delay), S) := fun x => by
    rw [clo_53]
    exact low_row_eq g c q hb hW x
  have ea := anyI g (.func (.func 53) #[] #[.pointer (some ⟨bc, 0, none⟩)]) (by rw [vlt_func]; simp [hlt]) s.l hl (fun x => !inB x 0 c.delay) rd (fun x _ => hcl x)
  have hs : vlt S.c (.slice s.a s.n s.c) = true := by
    have := rd.vlt
    cases h : s.a <;> (rw [h] at this; exact this)
  have ha : [Value.slice s.a s.n s.c, .pointer (some ⟨bc, 0, none⟩)].all (vlt S.c) = true := by
    rw [List.all_cons, hs, List.all_cons, vlt_ptr, decide_eq_true (show bc < S.c from hlt)]; rfl
  rw [eq51]
  have hN := g.n; have hL : S.lock ≤ S.c := g.ok.1
  simp -implicitDefEqProofs (maxSteps := 1000000) (disch := (refine id ?_; first | with_reducible assumption | ((fail_if_success (with_reducible apply isT_of)); (fail_if_success (first | fail)); first | (with_reducible apply Gd.cl; with_reducible assumption) | with_reducible exact Low.rfl' _ | (simp only [flatR_int, flatR_bool, flatR_string, flatR_tuple, flatR_agg, flat_int, flat_bool, flat_string, flat_agg, flat0_int, flat0_bool, flat0_string, List.all_cons, List.all_nil, Bool.and_self, Bool.and_true, Bool.true_and]; done) | fail))) only [ea, ha, gcR_some, ↓bindV_some, ↓bindS_some, bindV_some, bindS_some, ↓gV_f, wV_pos, wS_val, bin_neq, eq_self, pick_or2, decide_true, and_self, List.all_cons, Bool.and_self, Nat.reduceAdd, Nat.reduceSub, Nat.reduceMul, Nat.reduceLeDiff, Nat.reduceLT, Nat.reduceEqDiff, Int.reduceLE, Int.reduceLT, Int.reduceAdd, Int.reduceNeg, Int.reduceEq, Int.reduceSub, Int.reduceMul, Int.reduceToNat, ↓reduceIte, decide_eq_true_eq, Bool.not_eq_true', Bool.or_eq_true, decide_eq_false_iff_not, Bool.not_not, reduceCtorEq, call_52, clo_53, len_45]
  refine congrArg (fun b => some (Value.bool b, S)) ?_
  unfold rowBad
  rw [← hn, Bool.eq_iff_iff]
  simp only [Bool.or_eq_true, Bool.not_eq_true', decide_eq_false_iff_not, decide_eq_true_eq]
  constructor
  · rintro (h | h)
    · exact .inl (by omega)
    · exact .inr h
  · rintro (h | h)
    · exact .inl (by omega)
    · exact .inr h
theorem any_map {α β : Type} (f : α → β) (q : β → Bool) : ∀ l : List α, (l.any fun x => q (f x)) = (l.map f).any q
  | [] => rfl
  | x :: l => by rw [List.any_cons, List.map_cons, List.any_cons, any_map f q l]
theorem rows_eq (g : Gd W S) (c : Cfg) (q : Pl) (h : CfgAt W S c q) : cw W 30 #[cvl c q] S = some (.bool (rowsOk c), S) := by
  rw [eq30]
  have hN := g.n; have hL : S.lock ≤ S.c := g.ok.1
  have hq := h.vlt
  have g1 := g.new (o := .row [Value.int .i64 c.hosts, .int .i64 c.cycle, .int .i64 c.delay, .int .i64 c.window, .int .i64 c.prec, .slice q.ad c.delays.length q.cd, .slice q.ae c.entries.length q.ce, .slice q.al c.links.length q.cl, .int .i64 c.queue] 0) (objLt_mono (Nat.le_succ _) (cvl_obj hq))
  have hq1 : vlt (S.c + 1) (cvl c q) = true := vlt_mono (by omega) hq
  have ha : [cvl c q].all (vlt S.c) = true := by rw [List.all_cons, hq]; rfl
  have lw : Low S (S.new (.row (ccs c q) 0)) := Low.new (Low.rfl' S) _
  obtain ⟨svs, h1, h2, h3⟩ := (h.low lw).del
  have ea := anyV g1 (.func (.func 51) #[] #[.pointer (some ⟨S.c, 0, none⟩)]) (by rw [vlt_func]; simp) svs (by have := congrArg List.length h2; rw [List.length_map] at this; have := h.ld; omega) (fun s => rowBad c s.l) h1 (fun s hs => by
    rw [clo_51]
    exact row_eq g1 c q (new_self _) hN s (h3 s hs) (h.ldd _ (by rw [← h2]; exact List.mem_map_of_mem hs)))
  rw [any_map (fun s : Sv => s.l) (rowBad c), h2] at ea
  simp -implicitDefEqProofs (maxSteps := 1000000) (disch := (refine id ?_; first | ((fail_if_success (with_reducible apply isT_of)); (fail_if_success (first | fail)); first | omega | (with_reducible apply Gd.cl; with_reducible assumption) | (simp only [flatR_int, flatR_bool, flatR_string, flatR_tuple, flatR_agg, flat_int, flat_bool, flat_string, flat_agg, flat0_int, flat0_bool, flat0_string, List.all_cons, List.all_nil, Bool.and_self, Bool.and_true, Bool.true_and]; done) | fail))) only [ea, ha, gcR_some, ↓bindV_some, ↓bindS_some, bindV_some, bindS_some, ↓condK_B, gcR_B, bin_neq, un_not, box_agg, cell_at, cellOf_row, nth_zero, nth_succ, new_self, eq_self, new_at, decide_true, and_self, Nat.zero_add, List.all_cons, Bool.and_self, Nat.reduceAdd, Nat.reduceSub, Nat.reduceMul, Nat.reduceLeDiff, Nat.reduceLT, Nat.reduceEqDiff, Int.reduceLE, Int.reduceLT, Int.reduceAdd, Int.reduceNeg, Int.reduceEq, Int.reduceSub, Int.reduceMul, Int.reduceToNat, ↓reduceIte, Bool.not_eq_true', decide_eq_false_iff_not, reduceCtorEq, call_50, clo_51, ld_3, ld_22, len_22, fa_26_0, fa_26_5]
  unfold rowsOk
  by_cases hl : (c.delays.length : Int) = c.hosts
  · rw [condB_neg (by simpa using hl), decide_eq_true hl]
    rfl
  · rw [condB_pos (by simpa using hl), decide_eq_false hl]
    rfl
end
end Go.Proofs.Ytogcdgdnjinjkaa.F
end
section
namespace Go.Proofs.Ytogcdgdnjinjkaa.F
open Go Go.Proofs.Ytogcdgdnjinjkaa.E
set_option linter.unusedVariables false
set_option linter.unusedSimpArgs false
def qv (c : Cfg) : Int := 2 * c.delay + c.window + 4 * c.prec
def badRoute (c : Cfg) (e : En) : Bool := !route c.hosts e.f e.t e.sz
def badTime (c : Cfg) (e : En) : Bool := decide (e.ph < qv c) || decide (c.cycle ≤ e.ph) || decide (c.cycle ≤ late c e)
def badLink (c : Cfg) (l : Lk) : Bool := !route c.hosts l.f l.t l.sz || !inB l.gap 1 1073741824
section
variable {W : World} {S : St}
theorem rt_eq (g : Gd W S) (c : Cfg) (q : Pl) (hh : 1 ≤ c.hosts ∧ c.hosts ≤ 6) {bc : Nat} (hb : S.heap bc = .row (ccs c q) 0) (hW : W.heap.size ≤ bc) (e : En) (he : e.t < 4294967296) : cw W 57 #[evl e, .pointer (some ⟨bc, 0, none⟩)] S = some (.bool (badRoute c e), S) := by
  have hlt := row_lt g.ok hb
  rw [eq57]
  have hN := g.n; have hL : S.lock ≤ S.c := g.ok.1
  have g1 := g.new (o := .row [Value.int .i64 e.f, .int .u32 (e.t : Int), .int .i64 e.ph, .int .i64 e.sz] 0) rfl
  have er := route_eq g1 c.hosts hh e.f e.t he e.sz
  have ha : [evl e, .pointer (some ⟨bc, 0, none⟩)].all (vlt S.c) = true := by rw [List.all_cons, vlt_en]; simp [hlt]
  have hb1 : (S.new (.row [.int .i64 e.f, .int .u32 (e.t : Int), .int .i64 e.ph, .int .i64 e.sz] 0)).heap bc = S.heap bc := new_lo _ hlt
  simp -implicitDefEqProofs (maxSteps := 1000000) (disch := (refine id ?_; first | ((first | fail); (first | (simp +arith only [new_c, new_lock, upd_c, upd_lock, relock_c, relock_lock]; done) | fail)) | ((fail_if_success (with_reducible apply isT_of)); (fail_if_success (first | fail)); first | (simp +arith only [new_c, new_lock, upd_c, upd_lock, relock_c, relock_lock]; done) | omega | (with_reducible apply Gd.cl; with_reducible assumption) | with_reducible exact Low.rfl' _ | (with_reducible refine Low.new ?_ _; (repeat (first | with_reducible exact Low.rfl' _ )); done) | (simp only [flatR_int, flatR_bool, flatR_string, flatR_tuple, flatR_agg, flat_int, flat_bool, flat_string, flat_agg, flat0_int, flat0_bool, flat0_string, List.all_cons, List.all_nil, Bool.and_self, Bool.and_true, Bool.true_and]; done) | fail))) only [hb1, hb, er, ha, gcR_some, ↓bindV_some, ↓bindS_some, bindV_some, bindS_some, un_not, box_agg, cell_at, cellOf_row, nth_zero, nth_succ, eq_self, new_at, new_lo, decide_true, and_self, Nat.zero_add, List.all_cons, Bool.and_self, Nat.reduceAdd, Nat.reduceSub, Nat.reduceMul, Nat.reduceLeDiff, Nat.reduceLT, Nat.reduceEqDiff, Int.reduceLE, Int.reduceLT, Int.reduceAdd, Int.reduceNeg, Int.reduceEq, Int.reduceSub, Int.reduceMul, Int.reduceToNat, ↓reduceIte, reduceCtorEq, call_34, ld_3, fa_26_0, ld_30, fa_32_0, fa_32_1, fa_32_3]
  rfl
theorem ln_eq (g : Gd W S) (c : Cfg) (q : Pl) (hh : 1 ≤ c.hosts ∧ c.hosts ≤ 6) {bc : Nat} (hb : S.heap bc = .row (ccs c q) 0) (hW : W.heap.size ≤ bc) (e : Lk) (he : e.t < 4294967296) : cw W 33 #[lvl e, .pointer (some ⟨bc, 0, none⟩)] S = some (.bool (badLink c e), S) := by
  have hlt := row_lt g.ok hb
  rw [eq33]
  have hN := g.n; have hL : S.lock ≤ S.c := g.ok.1
  have g1 := g.new (o := .row [Value.int .i64 e.f, .int .u32 (e.t : Int), .int .i64 e.gap, .int .i64 e.sz] 0) rfl
  have er := route_eq g1 c.hosts hh e.f e.t he e.sz
  have ei := in_eq g1 e.gap 1 1073741824
  have ha : [lvl e, .pointer (some ⟨bc, 0, none⟩)].all (vlt S.c) = true := by rw [List.all_cons, vlt_agg]; simp [hlt]
  have hb1 : (S.new (.row [.int .i64 e.f, .int .u32 (e.t : Int), .int .i64 e.gap, .int .i64 e.sz] 0)).heap bc = S.heap bc := new_lo _ hlt
  simp -implicitDefEqProofs (maxSteps := 1000000) (disch := (refine id ?_; first | with_reducible assumption | ((first | fail); (first | (simp +arith only [new_c, new_lock, upd_c, upd_lock, relock_c, relock_lock]; done) | fail)) | ((fail_if_success (with_reducible apply isT_of)); (fail_if_success (first | fail)); first | (simp +arith only [new_c, new_lock, upd_c, upd_lock, relock_c, relock_lock]; done) | (with_reducible apply Gd.cl; with_reducible assumption) | with_reducible exact Low.rfl' _ | (with_reducible refine Low.new ?_ _; (repeat (first | with_reducible exact Low.rfl' _ | with_reducible assumption )); done) | (simp only [flatR_int, flatR_bool, flatR_string, flatR_tuple, flatR_agg, flat_int, flat_bool, flat_string, flat_agg, flat0_int, flat0_bool, flat0_string, List.all_cons, List.all_nil, Bool.and_self, Bool.and_true, Bool.true_and]; done) | fail))) only [hb1, hb, er, ei, ha, gcR_some, ↓bindV_some, ↓bindS_some, bindV_some, bindS_some, ↓gV_f, wV_pos, wO_val, wS_val, un_not, box_agg, cell_at, cellOf_row, nth_zero, nth_succ, eq_self, new_at, new_lo, pick_or2, decide_true, and_self, Nat.zero_add, List.all_cons, Bool.and_self, Nat.reduceAdd, Nat.reduceSub, Nat.reduceMul, Nat.reduceLeDiff, Nat.reduceLT, Nat.reduceEqDiff, Int.reduceLE, Int.reduceLT, Int.reduceAdd, Int.reduceNeg, Int.reduceEq, Int.reduceSub, Int.reduceMul, Int.reduceToNat, ↓reduceIte, Bool.not_not, reduceCtorEq, call_28, call_34, ld_2, ld_3, fa_26_0, ld_30, fa_47_0, fa_47_1, fa_47_2, fa_47_3]
  rfl
theorem tt_eq (g : Gd W S) (c : Cfg) (q : Pl) (hq : vlt S.c (cvl c q) = true) (hs : c.spans = true) {bc : Nat} (hb : S.heap bc = .row (ccs c q) 0) (hW : W.heap.size ≤ bc) (e : En) (he : e.t < 4294967296) : cw W 58 #[evl e, .pointer (some ⟨bc, 0, none⟩)] S = some (.bool (badTime c e), S) := by
  have hlt := row_lt g.ok hb
  rw [eq58]
  have hN := g.n; have hL : S.lock ≤ S.c := g.ok.1
  have g1 := g.new (o := .row [Value.int .i64 e.f, .int .u32 (e.t : Int), .int .i64 e.ph, .int .i64 e.sz] 0) rfl
  have hq1 : vlt (S.c + 1) (cvl c q) = true := vlt_mono (by omega) hq
  have eqt := fun (U : St) (gU : Gd W U) (hU : vlt U.c (cvl c q) = true) => quiet_eq gU c q hU hs
  have elt := fun (U : St) (gU : Gd W U) (hU : vlt U.c (cvl c q) = true) => Late_eq gU c q hU e he
  have ha : [evl e, .pointer (some ⟨bc, 0, none⟩)].all (vlt S.c) = true := by rw [List.all_cons, vlt_en]; simp [hlt]
  have hb1 : (S.new (.row [.int .i64 e.f, .int .u32 (e.t : Int), .int .i64 e.ph, .int .i64 e.sz] 0)).heap bc = S.heap bc := new_lo _ hlt
  simp -implicitDefEqProofs (maxSteps := 1000000) (disch := (refine id ?_; first | with_reducible assumption | ((first | fail); (first | (simp +arith only [new_c, new_lock, upd_c, upd_lock, relock_c, relock_lock]; done) | fail)) | ((fail_if_success (with_reducible apply isT_of)); (fail_if_success (first | fail)); first | (simp +arith only [new_c, new_lock, upd_c, upd_lock, relock_c, relock_lock]; done) | (with_reducible apply Gd.cl; with_reducible assumption) | (simp only [new_c, new_lock, upd_c, upd_lock, relock_c, relock_lock] <;> omega) | with_reducible exact Low.rfl' _ | (with_reducible refine Low.new ?_ _; (repeat (first | with_reducible exact Low.rfl' _ | with_reducible assumption )); done) | (with_reducible refine Gd.relock2 ?_ ?_; rotate_left; simp only [new_c, upd_c, relock_c]; (repeat (first | with_reducible assumption )); done) | (simp only [flatR_int, flatR_bool, flatR_string, flatR_tuple, flatR_agg, flat_int, flat_bool, flat_string, flat_agg, flat0_int, flat0_bool, flat0_string, List.all_cons, List.all_nil, Bool.and_self, Bool.and_true, Bool.true_and]; done) | fail))) only [hb1, hb, eqt, elt, hq1, ha, gcR_some, ↓bindV_some, ↓bindS_some, bindV_some, bindS_some, ↓gV_f, wV_pos, wO_val, wS_val, pick_or, bin_lss, bin_geq, box_agg, cell_at, cells_at, cellOf_row, cellsOf_row, nth_zero, nth_succ, aggOf_some, eq_self, new_at, new_lo, new_c, new_lock, relock2, relock_id, qS_true, unlock_some, decide_true, and_self, Nat.zero_add, List.length_cons, List.length_nil, List.drop_zero, List.take_succ_cons, List.take_zero, List.all_cons, Bool.and_self, Nat.reduceAdd, Nat.reduceSub, Nat.reduceMul, Nat.reduceLeDiff, Nat.reduceLT, Nat.reduceEqDiff, Int.reduceLE, Int.reduceLT, Int.reduceAdd, Int.reduceNeg, Int.reduceEq, Int.reduceSub, Int.reduceMul, Int.reduceToNat, ↓reduceIte, Nat.le_refl, reduceCtorEq, call_18, call_41, ld_2, fa_26_1, ld_26, fa_32_2, ld_32]
  rfl
theorem ph_eq (g : Gd W S) (e : En) : cw W 54 #[evl e] S = some (i64 e.ph, S) := by
  rw [eq54]
  have hN := g.n; have hL : S.lock ≤ S.c := g.ok.1
  have ha : [evl e].all (vlt S.c) = true := by rw [List.all_cons, vlt_en]; rfl
  simp -implicitDefEqProofs (maxSteps := 1000000) (disch := (refine id ?_; first | ((first | fail); (first | (simp +arith only [new_c, new_lock, upd_c, upd_lock, relock_c, relock_lock]; done) | fail)) | ((fail_if_success (with_reducible apply isT_of)); (fail_if_success (first | fail)); first | (simp +arith only [new_c, new_lock, upd_c, upd_lock, relock_c, relock_lock]; done) | omega | (with_reducible apply Gd.cl; with_reducible assumption) | with_reducible exact Low.rfl' _ | (with_reducible refine Low.new ?_ _; (repeat (first | with_reducible exact Low.rfl' _ )); done) | (simp only [flatR_int, flatR_bool, flatR_string, flatR_tuple, flatR_agg, flat_int, flat_bool, flat_string, flat_agg, flat0_int, flat0_bool, flat0_string, List.all_cons, List.all_nil, Bool.and_self, Bool.and_true, Bool.true_and]; done) | fail))) only [ha, gcR_some, ↓bindV_some, ↓bindS_some, bindV_some, bindS_some, box_agg, cell_at, cellOf_row, nth_zero, nth_succ, eq_self, new_at, Nat.zero_add, List.all_cons, Nat.reduceAdd, Nat.reduceSub, Nat.reduceMul, Nat.reduceLeDiff, Nat.reduceLT, Nat.reduceEqDiff, Int.reduceLE, Int.reduceLT, Int.reduceAdd, Int.reduceNeg, Int.reduceEq, Int.reduceSub, Int.reduceMul, Int.reduceToNat, ↓reduceIte, reduceCtorEq, ld_2, fa_32_2]
theorem fw_eq (g : Gd W S) (c : Cfg) (q : Pl) (hq : vlt S.c (cvl c q) = true) {bc : Nat} (hb : S.heap bc = .row (ccs c q) 0) (hW : W.heap.size ≤ bc) (e : En) (he : e.t < 4294967296) : cw W 55 #[evl e, .pointer (some ⟨bc, 0, none⟩)] S = some (i64 (forward c e), S) := by
  have hlt := row_lt g.ok hb
  rw [eq55]
  have hN := g.n; have hL : S.lock ≤ S.c := g.ok.1
  have g1 := g.new (o := .row [Value.int .i64 e.f, .int .u32 (e.t : Int), .int .i64 e.ph, .int .i64 e.sz] 0) rfl
  have ef := Forward_eq g1 c q (vlt_mono (by simp only [new_c]; omega) hq) e he
  have ha : [evl e, .pointer (some ⟨bc, 0, none⟩)].all (vlt S.c) = true := by rw [List.all_cons, vlt_en]; simp [hlt]
  have hb1 : (S.new (.row [.int .i64 e.f, .int .u32 (e.t : Int), .int .i64 e.ph, .int .i64 e.sz] 0)).heap bc = S.heap bc := new_lo _ hlt
  simp -implicitDefEqProofs (maxSteps := 1000000) (disch := (refine id ?_; first | ((first | fail); (first | (simp +arith only [new_c, new_lock, upd_c, upd_lock, relock_c, relock_lock]; done) | fail)) | ((fail_if_success (with_reducible apply isT_of)); (fail_if_success (first | fail)); first | (simp +arith only [new_c, new_lock, upd_c, upd_lock, relock_c, relock_lock]; done) | omega | (with_reducible apply Gd.cl; with_reducible assumption) | with_reducible exact Low.rfl' _ | (with_reducible refine Low.new ?_ _; (repeat (first | with_reducible exact Low.rfl' _ )); done) | (simp only [flatR_int, flatR_bool, flatR_string, flatR_tuple, flatR_agg, flat_int, flat_bool, flat_string, flat_agg, flat0_int, flat0_bool, flat0_string, List.all_cons, List.all_nil, Bool.and_self, Bool.and_true, Bool.true_and]; done) | fail))) only [hb1, hb, ef, ha, gcR_some, ↓bindV_some, ↓bindS_some, bindV_some, bindS_some, box_agg, cells_at, cellsOf_row, aggOf_some, eq_self, new_at, new_lo, decide_true, and_self, Nat.zero_add, List.length_cons, List.length_nil, List.drop_zero, List.take_succ_cons, List.take_zero, List.all_cons, Bool.and_self, Nat.reduceAdd, Nat.reduceSub, Nat.reduceMul, Nat.reduceLeDiff, Nat.reduceLT, Nat.reduceEqDiff, Int.reduceLE, Int.reduceLT, Int.reduceAdd, Int.reduceNeg, Int.reduceEq, Int.reduceSub, Int.reduceMul, Int.reduceToNat, ↓reduceIte, Nat.le_refl, reduceCtorEq, call_16, ld_26, ld_32]
def Abv (S U : St) : Prop := S.c ≤ U.c ∧ ∀ i, i < S.c → U.heap i = S.heap i
theorem Abv.of {S U : St} (h : Low S U) : Abv S U := ⟨h.2.1, h.2.2⟩
theorem Abv.rfl' (S : St) : Abv S S := ⟨Nat.le_refl _, fun _ _ => rfl⟩
theorem Abv.trans {S T U : St} (h : Abv S T) (k : Abv T U) : Abv S U := ⟨Nat.le_trans h.1 k.1, fun i hi => (k.2 i (Nat.lt_of_lt_of_le hi h.1)).trans (h.2 i hi)⟩
theorem Abv.relock {S U : St} (h : Abv S U) (l : Nat) : Abv S (U.relock l) := h
theorem meet_eq (g : Gd W S) (a b : En) (fv : Value) (hv : vlt S.c fv = true) (va vb : Int) (ra : -1152921504606846976 ≤ va ∧ va ≤ 1152921504606846976) (rb : -1152921504606846976 ≤ vb ∧ vb ≤ 1152921504606846976)
    (hf : ∀ U, Gd W U → Abv S U → aCall p (cw W) U fv #[evl a] = some (i64 va, U)) (hf2 : ∀ U, Gd W U → Abv S U → aCall p (cw W) U fv #[evl b] = some (i64 vb, U)) : cw W 61 #[evl a, evl b, fv] S = some (.bool (meets va (tm a.sz) vb (tm b.sz)), S) := by
  have ta := tm_rng a.sz
  have tb := tm_rng b.sz
  rw [eq61]
  have hN := g.n; have hL : S.lock ≤ S.c := g.ok.1
  have et := fun (U : St) (gU : Gd W U) (z : Int) => time_eq gU z
  have g2 : Gd W ((S.new (.row [.int .i64 a.f, .int .u32 (a.t : Int), .int .i64 a.ph, .int .i64 a.sz] 0)).new (.row [.int .i64 b.f, .int .u32 (b.t : Int), .int .i64 b.ph, .int .i64 b.sz] 0)) := (g.new rfl).new rfl
  have x2 : Ext [] S ((S.new (.row [.int .i64 a.f, .int .u32 (a.t : Int), .int .i64 a.ph, .int .i64 a.sz] 0)).new (.row [.int .i64 b.f, .int .u32 (b.t : Int), .int .i64 b.ph, .int .i64 b.sz] 0)) := (Ext.new g.ok rfl).then (Ext.new (g.new rfl).ok rfl)
  have eA : aCall p (cw W) (((S.new (.row [.int .i64 a.f, .int .u32 (a.t : Int), .int .i64 a.ph, .int .i64 a.sz] 0)).new (.row [.int .i64 b.f, .int .u32 (b.t : Int), .int .i64 b.ph, .int .i64 b.sz] 0)).relock (S.c + 1 + 1)) fv #[.agg #[.int .i64 a.f, .int .u32 (a.t : Int), .int .i64 a.ph, .int .i64 a.sz]] = some (.int .i64 va, ((S.new (.row [.int .i64 a.f, .int .u32 (a.t : Int), .int .i64 a.ph, .int .i64 a.sz] 0)).new (.row [.int .i64 b.f, .int .u32 (b.t : Int), .int .i64 b.ph, .int .i64 b.sz] 0)).relock (S.c + 1 + 1)) := hf _ g2.relock ((Abv.of x2.low).relock _)
  have eB : aCall p (cw W) (((S.new (.row [.int .i64 a.f, .int .u32 (a.t : Int), .int .i64 a.ph, .int .i64 a.sz] 0)).new (.row [.int .i64 b.f, .int .u32 (b.t : Int), .int .i64 b.ph, .int .i64 b.sz] 0)).relock (S.c + 1 + 1)) fv #[.agg #[.int .i64 b.f, .int .u32 (b.t : Int), .int .i64 b.ph, .int .i64 b.sz]] = some (.int .i64 vb, ((S.new (.row [.int .i64 a.f, .int .u32 (a.t : Int), .int .i64 a.ph, .int .i64 a.sz] 0)).new (.row [.int .i64 b.f, .int .u32 (b.t : Int), .int .i64 b.ph, .int .i64 b.sz] 0)).relock (S.c + 1 + 1)) := hf2 _ g2.relock ((Abv.of x2.low).relock _)
  have ha : [evl a, evl b, fv].all (vlt S.c) = true := by rw [List.all_cons, vlt_en, List.all_cons, vlt_en, List.all_cons, hv]; rfl
  simp -implicitDefEqProofs (maxSteps := 1000000) (disch := (refine id ?_; first | with_reducible assumption | ((first | fail); (first | (simp +arith only [new_c, new_lock, upd_c, upd_lock, relock_c, relock_lock]; done) | (refine Nat.le_trans hN ?_; simp +arith only [new_c, new_lock, upd_c, upd_lock, relock_c, relock_lock]; done) | fail)) | ((fail_if_success (with_reducible apply isT_of)); (fail_if_success (first | fail)); first | (simp +arith only [new_c, new_lock, upd_c, upd_lock, relock_c, relock_lock]; done) | (refine Nat.le_trans hN ?_; simp +arith only [new_c, new_lock, upd_c, upd_lock, relock_c, relock_lock]; done) | omega | (with_reducible apply Gd.cl; with_reducible assumption) | with_reducible exact Low.rfl' _ | (with_reducible refine Low.new ?_ _; (repeat (first | with_reducible exact Low.rfl' _ | with_reducible assumption | refine Low.new ?_ _ )); done) | (simp only [flatR_int, flatR_bool, flatR_string, flatR_tuple, flatR_agg, flat_int, flat_bool, flat_string, flat_agg, flat0_int, flat0_bool, flat0_string, List.all_cons, List.all_nil, Bool.and_self, Bool.and_true, Bool.true_and]; done) | fail))) only [eA, eB, et, ha, gcR_some, ↓bindV_some, ↓bindS_some, bindV_some, bindS_some, ↓gV_t, wrap64, wV_pos, wO_val, wS_val, pick_and, bin_add, bin_lss, box_agg, cell_at, cells_at, cellOf_row, cellsOf_row, nth_zero, nth_succ, aggOf_some, eq_self, new_at, new_lo, new_c, new_lock, relock2, relock_id, qS_true, unlock_some, Nat.zero_add, List.length_cons, List.length_nil, List.drop_zero, List.take_succ_cons, List.take_zero, List.all_cons, Nat.reduceAdd, Nat.reduceSub, Nat.reduceMul, Nat.reduceLeDiff, Nat.reduceLT, Nat.reduceEqDiff, Int.reduceLE, Int.reduceLT, Int.reduceAdd, Int.reduceNeg, Int.reduceEq, Int.reduceSub, Int.reduceMul, Int.reduceToNat, ↓reduceIte, Nat.le_refl, decide_eq_true_eq, Bool.and_eq_true, reduceCtorEq, call_21, ld_3, fa_32_3, ld_32]
  refine congrArg (fun b => some (Value.bool b, S)) ?_
  unfold meets
  rw [Bool.eq_iff_iff]
  simp only [Bool.and_eq_true, decide_eq_true_eq]
theorem same_eq (g : Gd W S) (a b : En) {bf : Nat} (hb : S.heap bf = .row [.func (.func 54) #[] #[]] 0) (hW : W.heap.size ≤ bf) (ra : -1152921504606846976 ≤ a.ph ∧ a.ph ≤ 1152921504606846976) (rb : -1152921504606846976 ≤ b.ph ∧ b.ph ≤ 1152921504606846976) : cw W 60 #[evl a, evl b, .pointer (some ⟨bf, 0, none⟩)] S = some (.bool (decide (a.f = b.f) && meets a.ph (tm a.sz) b.ph (tm b.sz)), S) := by
  have hlt := row_lt g.ok hb
  rw [eq60]
  have hN := g.n; have hL : S.lock ≤ S.c := g.ok.1
  have g2 : Gd W ((S.new (.row [.int .i64 a.f, .int .u32 (a.t : Int), .int .i64 a.ph, .int .i64 a.sz] 0)).new (.row [.int .i64 b.f, .int .u32 (b.t : Int), .int .i64 b.ph, .int .i64 b.sz] 0)) := (g.new rfl).new rfl
  have em := meet_eq g2 a b (.func (.func 54) #[] #[]) (by rw [vlt_func]; rfl) a.ph b.ph ra rb (fun U gU _ => by rw [call_54]; exact ph_eq gU a) (fun U gU _ => by rw [call_54]; exact ph_eq gU b)
  have hb1 : ((S.new (.row [.int .i64 a.f, .int .u32 (a.t : Int), .int .i64 a.ph, .int .i64 a.sz] 0)).new (.row [.int .i64 b.f, .int .u32 (b.t : Int), .int .i64 b.ph, .int .i64 b.sz] 0)).heap bf = S.heap bf := by rw [new_lo _ (by simp only [new_c]; omega), new_lo _ hlt]
  have ha : [evl a, evl b, .pointer (some ⟨bf, 0, none⟩)].all (vlt S.c) = true := by rw [List.all_cons, vlt_en, List.all_cons, vlt_en]; simp [hlt]
  simp -implicitDefEqProofs (maxSteps := 1000000) (disch := (refine id ?_; first | with_reducible assumption | ((first | fail); (first | (simp +arith only [new_c, new_lock, upd_c, upd_lock, relock_c, relock_lock]; done) | (refine Nat.le_trans hN ?_; simp +arith only [new_c, new_lock, upd_c, upd_lock, relock_c, relock_lock]; done) | fail)) | ((fail_if_success (with_reducible apply isT_of)); (fail_if_success (first | fail)); first | (simp +arith only [new_c, new_lock, upd_c, upd_lock, relock_c, relock_lock]; done) | (refine Nat.le_trans hN ?_; simp +arith only [new_c, new_lock, upd_c, upd_lock, relock_c, relock_lock]; done) | (with_reducible apply Gd.cl; with_reducible assumption) | with_reducible exact Low.rfl' _ | (with_reducible refine Low.new ?_ _; (repeat (first | with_reducible exact Low.rfl' _ | with_reducible assumption | refine Low.new ?_ _ )); done) | (simp only [flatR_int, flatR_bool, flatR_string, flatR_tuple, flatR_agg, flat_int, flat_bool, flat_string, flat_agg, flat0_int, flat0_bool, flat0_string, List.all_cons, List.all_nil, Bool.and_self, Bool.and_true, Bool.true_and]; done) | fail))) only [hb1, hb, em, ha, gcR_some, ↓bindV_some, ↓bindS_some, bindV_some, bindS_some, ↓gV_t, wV_pos, wO_val, wS_val, pick_and, bin_eql, box_agg, cell_at, cells_at, cellOf_row, cellsOf_row, nth_zero, aggOf_some, eq_self, new_at, new_lo, new_c, decide_true, and_self, Nat.zero_add, List.length_cons, List.length_nil, List.drop_zero, List.take_succ_cons, List.take_zero, List.all_cons, Bool.and_self, Nat.reduceAdd, Nat.reduceSub, Nat.reduceMul, Nat.reduceLeDiff, Nat.reduceLT, Nat.reduceEqDiff, Int.reduceLE, Int.reduceLT, Int.reduceAdd, Int.reduceNeg, Int.reduceEq, Int.reduceSub, Int.reduceMul, Int.reduceToNat, ↓reduceIte, Nat.le_refl, reduceCtorEq, call_54, call_61, ld_3, fa_32_0, ld_32, ld_70]
theorem fwd_rng (c : Cfg) (e : En) : -1152921504606846976 ≤ forward c e ∧ forward c e ≤ 1152921504606846976 := by
  have tr := tm_rng e.sz
  unfold forward
  split
  · rename_i h
    have := plain_rng h
    omega
  · omega
theorem both_eq (g : Gd W S) (c : Cfg) (q : Pl) (hq : vlt S.c (cvl c q) = true) (a b : En) (ha' : a.t < 4294967296) (hb' : b.t < 4294967296) {bf bc : Nat} (hb : S.heap bf = .row [.func (.func 55) #[] #[.pointer (some ⟨bc, 0, none⟩)]] 0) (hW : W.heap.size ≤ bf) (hbc : S.heap bc = .row (ccs c q) 0) (hWc : W.heap.size ≤ bc) : cw W 62 #[evl a, evl b, .pointer (some ⟨bf, 0, none⟩)] S = some (.bool (decide (a.t &&& b.t ≠ 0) && meets (forward c a) (tm a.sz) (forward c b) (tm b.sz)), S) := by
  have hlt := row_lt g.ok hb
  have hltc := row_lt g.ok hbc
  rw [eq62]
  have hN := g.n; have hL : S.lock ≤ S.c := g.ok.1
  have g2 : Gd W ((S.new (.row [.int .i64 a.f, .int .u32 (a.t : Int), .int .i64 a.ph, .int .i64 a.sz] 0)).new (.row [.int .i64 b.f, .int .u32 (b.t : Int), .int .i64 b.ph, .int .i64 b.sz] 0)) := (g.new rfl).new rfl
  have hb1 : ((S.new (.row [.int .i64 a.f, .int .u32 (a.t : Int), .int .i64 a.ph, .int .i64 a.sz] 0)).new (.row [.int .i64 b.f, .int .u32 (b.t : Int), .int .i64 b.ph, .int .i64 b.sz] 0)).heap bf = S.heap bf := by rw [new_lo _ (by simp only [new_c]; omega), new_lo _ hlt]
  have hb2 : ((S.new (.row [.int .i64 a.f, .int .u32 (a.t : Int), .int .i64 a.ph, .int .i64 a.sz] 0)).new (.row [.int .i64 b.f, .int .u32 (b.t : Int), .int .i64 b.ph, .int .i64 b.sz] 0)).heap bc = S.heap bc := by rw [new_lo _ (by simp only [new_c]; omega), new_lo _ hltc]
  have fc : ∀ (e : En), e.t < 4294967296 → ∀ U, Gd W U → Abv ((S.new (.row [.int .i64 a.f, .int .u32 (a.t : Int), .int .i64 a.ph, .int .i64 a.sz] 0)).new (.row [.int .i64 b.f, .int .u32 (b.t : Int), .int .i64 b.ph, .int .i64 b.sz] 0)) U → aCall p (cw W) U (.func (.func 55) #[] #[.pointer (some ⟨bc, 0, none⟩)]) #[evl e] = some (i64 (forward c e), U) := fun e he U gU aU => by
    rw [clo_55]
    refine fw_eq gU c q (vlt_mono (Nat.le_trans (by simp only [new_c]; omega) aU.1) hq) (bc := bc) ?_ hWc e he
    rw [aU.2 bc (by simp only [new_c]; omega), hb2, hbc]
  have em := meet_eq g2 a b (.func (.func 55) #[] #[.pointer (some ⟨bc, 0, none⟩)]) (by rw [vlt_func]; simp; omega) (forward c a) (forward c b) (fwd_rng c a) (fwd_rng c b) (fc a ha') (fc b hb')
  have ha : [evl a, evl b, .pointer (some ⟨bf, 0, none⟩)].all (vlt S.c) = true := by rw [List.all_cons, vlt_en, List.all_cons, vlt_en]; simp [hlt]
  have hand := and_nat a.t b.t ha' hb'
  have h0 : (((a.t &&& b.t : Nat) : Int) = 0) = ((a.t &&& b.t) = 0) := by simp
  simp -implicitDefEqProofs (maxSteps := 1000000) (disch := (refine id ?_; first | with_reducible assumption | ((first | fail); (first | (simp +arith only [new_c, new_lock, upd_c, upd_lock, relock_c, relock_lock]; done) | (refine Nat.le_trans hN ?_; simp +arith only [new_c, new_lock, upd_c, upd_lock, relock_c, relock_lock]; done) | fail)) | ((fail_if_success (with_reducible apply isT_of)); (fail_if_success (first | fail)); first | (simp +arith only [new_c, new_lock, upd_c, upd_lock, relock_c, relock_lock]; done) | (refine Nat.le_trans hN ?_; simp +arith only [new_c, new_lock, upd_c, upd_lock, relock_c, relock_lock]; done) | (with_reducible apply Gd.cl; with_reducible assumption) | with_reducible exact Low.rfl' _ | (with_reducible refine Low.new ?_ _; (repeat (first | with_reducible exact Low.rfl' _ | with_reducible assumption | refine Low.new ?_ _ )); done) | (simp only [flatR_int, flatR_bool, flatR_string, flatR_tuple, flatR_agg, flat_int, flat_bool, flat_string, flat_agg, flat0_int, flat0_bool, flat0_string, List.all_cons, List.all_nil, Bool.and_self, Bool.and_true, Bool.true_and]; done) | fail))) only [hb1, hb, em, hand, h0, ha, gcR_some, ↓bindV_some, ↓bindS_some, bindV_some, bindS_some, ↓gV_t, wV_pos, wO_val, wS_val, pick_and, bin_neq, bin_and, box_agg, cell_at, cells_at, cellOf_row, cellsOf_row, nth_zero, nth_succ, aggOf_some, eq_self, new_at, new_lo, new_c, decide_true, and_self, and_true, true_and, Nat.zero_add, List.length_cons, List.length_nil, List.drop_zero, List.take_succ_cons, List.take_zero, List.all_cons, Bool.and_true, Bool.true_and, Bool.and_self, Nat.reduceAdd, Nat.reduceSub, Nat.reduceMul, Nat.reduceLeDiff, Nat.reduceLT, Nat.reduceEqDiff, Int.reduceLE, Int.reduceLT, Int.reduceAdd, Int.reduceNeg, Int.reduceEq, Int.reduceSub, Int.reduceMul, Int.reduceToNat, ↓reduceIte, Nat.le_refl, decide_eq_true_eq, reduceCtorEq, call_61, clo_55, ld_30, fa_32_1, ld_32, ld_70]
  simp
end
end Go.Proofs.Ytogcdgdnjinjkaa.F
end
section
namespace Go.Proofs.Ytogcdgdnjinjkaa.F
open Go Go.Proofs.Ytogcdgdnjinjkaa.E
set_option linter.unusedVariables false
set_option linter.unusedSimpArgs false
def pairsB (bad : En → En → Bool) : List En → List En → Bool
  | _, [] => false
  | pre, a :: l => pre.any (bad a) || pairsB bad (pre ++ [a]) l
section
variable {W : World} {S : St}
theorem p1_eq (g : Gd W S) (b a : En) (fv : Value) {b1 b2 : Nat} (h1 : S.heap b1 = .row [fv] 0) (hW1 : W.heap.size ≤ b1) (h2 : S.heap b2 = .row [.int .i64 a.f, .int .u32 (a.t : Int), .int .i64 a.ph, .int .i64 a.sz] 0) (hW2 : W.heap.size ≤ b2) (r : Bool) (hf : ∀ U, Gd W U → Abv S U → aCall p (cw W) U fv #[evl a, evl b] = some (.bool r, U)) : cw W 71 #[evl b, .pointer (some ⟨b1, 0, none⟩), .pointer (some ⟨b2, 0, none⟩)] S = some (.bool r, S) := by
  have hlt1 := row_lt g.ok h1
  have hlt2 := row_lt g.ok h2
  rw [eq71]
  have hN := g.n; have hL : S.lock ≤ S.c := g.ok.1
  have g1 : Gd W (S.new (.row [.int .i64 b.f, .int .u32 (b.t : Int), .int .i64 b.ph, .int .i64 b.sz] 0)) := g.new rfl
  have x1 : Ext [] S (S.new (.row [.int .i64 b.f, .int .u32 (b.t : Int), .int .i64 b.ph, .int .i64 b.sz] 0)) := Ext.new g.ok rfl
  have hc := hf _ g1 (Abv.of x1.low)
  have ha : [evl b, .pointer (some ⟨b1, 0, none⟩), .pointer (some ⟨b2, 0, none⟩)].all (vlt S.c) = true := by rw [List.all_cons, vlt_en]; simp [hlt1, hlt2]
  have hb1 : (S.new (.row [.int .i64 b.f, .int .u32 (b.t : Int), .int .i64 b.ph, .int .i64 b.sz] 0)).heap b1 = S.heap b1 := new_lo _ hlt1
  have hb2 : (S.new (.row [.int .i64 b.f, .int .u32 (b.t : Int), .int .i64 b.ph, .int .i64 b.sz] 0)).heap b2 = S.heap b2 := new_lo _ hlt2
  simp -implicitDefEqProofs (maxSteps := 1000000) (disch := (refine id ?_; first | ((first | fail); (first | (simp +arith only [new_c, new_lock, upd_c, upd_lock, relock_c, relock_lock]; done) | fail)) | ((fail_if_success (with_reducible apply isT_of)); (fail_if_success (first | fail)); first | (simp +arith only [new_c, new_lock, upd_c, upd_lock, relock_c, relock_lock]; done) | omega | (with_reducible apply Gd.cl; with_reducible assumption) | with_reducible exact Low.rfl' _ | (with_reducible refine Low.new ?_ _; (repeat (first | with_reducible exact Low.rfl' _ )); done) | (simp only [flatR_int, flatR_bool, flatR_string, flatR_tuple, flatR_agg, flat_int, flat_bool, flat_string, flat_agg, flat0_int, flat0_bool, flat0_string, List.all_cons, List.all_nil, Bool.and_self, Bool.and_true, Bool.true_and]; done) | fail))) only [hb1, hb2, h1, h2, hc, ha, gcR_some, ↓bindV_some, ↓bindS_some, bindV_some, bindS_some, box_agg, cell_at, cells_at, cellOf_row, cellsOf_row, nth_zero, aggOf_some, eq_self, new_at, new_lo, decide_true, and_self, Nat.zero_add, List.length_cons, List.length_nil, List.drop_zero, List.take_succ_cons, List.take_zero, List.all_cons, Bool.and_self, Nat.reduceAdd, Nat.reduceSub, Nat.reduceMul, Nat.reduceLeDiff, Nat.reduceLT, Nat.reduceEqDiff, Int.reduceLE, Int.reduceLT, Int.reduceAdd, Int.reduceNeg, Int.reduceEq, Int.reduceSub, Int.reduceMul, Int.reduceToNat, ↓reduceIte, Nat.le_refl, reduceCtorEq, ld_32, ld_75]
theorem pairs_loop (S0 : St) (l : List En) (hlen : l.length ≤ 2 ^ 60) (bad : En → En → Bool) (fv : Value) (bf : Nat) (hW : W.heap.size ≤ bf) (hf : ∀ a ∈ l, ∀ b ∈ l, ∀ U, Gd W U → Abv S0 U → aCall p (cw W) U fv #[evl a, evl b] = some (.bool (bad a b), U)) (vl y1 y2 : Value) : ∀ (n j : Nat) (hn : n + j = l.length) (S : St) (g : Gd W S) (rd : Rd NT W S vl l) (aS : Abv S0 S) (hb : S.heap bf = .row [fv] 0),
    Wp (bindO (l59_1010 W vl y1 y2 (.pointer (some ⟨bf, 0, none⟩)) vl (.int .i64 l.length) (.int .i64 j) S) (kc W c59 [1, 0, 1, 0] f59)) (fun r => r.1 = .bool (pairsB bad (l.take j) (l.drop j)) ∧ Low S r.2)
  | 0, j, hn, S, g, rd, aS, hb => by
    have hx : ¬ ((j : Int) < l.length) := by omega
    rw [r59_1010]
    simp -implicitDefEqProofs (maxSteps := 1000000) (disch := (refine id ?_; first | ((first | fail); (first | (refine Nat.le_trans hL ?_; simp +arith only [new_c, new_lock, upd_c, upd_lock, relock_c, relock_lock]; done) | fail)) | ((fail_if_success (with_reducible apply isT_of)); (fail_if_success (first | fail)); first | (refine Nat.le_trans hL ?_; simp +arith only [new_c, new_lock, upd_c, upd_lock, relock_c, relock_lock]; done) | omega | (with_reducible refine Low.new ?_ _; (repeat (first | refine Low.upd ?_ (by (first | omega )) _)); done) | (with_reducible refine Low.upd ?_ (by (first | omega )) _; (repeat (first | refine Low.upd ?_ (by (first | omega )) _)); done) | (with_reducible refine Gd.new ?_ (by (simp only [objLt_row, objLt_dead, List.all_cons, List.all_nil, vlt1_int, vlt1_bool, vlt1_string, vlt1_nilp, vlt1_nils, vlt1_ptr, vlt1_sl, vlt1_func, vlt0_ptr, vlt0_sl, vlt0_int, vlt0_bool, vlt0_string, vlt0_nilp, vlt0_nils, vlt_int, vlt_bool, vlt_string, vlt_nilp, vlt_nils, vlt_ptr, vlt_sl, vlt_agg, vlt_func, List.toArray, Bool.and_true, Bool.true_and, Bool.and_self, Bool.and_eq_true, decide_eq_true_eq, and_true, true_and, new_c, upd_c, relock_c] <;> omega)); (repeat (first | refine Gd.upd ?_ (by (first | omega )) (by (simp only [objLt_row, objLt_dead, List.all_cons, List.all_nil, vlt1_int, vlt1_bool, vlt1_string, vlt1_nilp, vlt1_nils, vlt1_ptr, vlt1_sl, vlt1_func, vlt0_ptr, vlt0_sl, vlt0_int, vlt0_bool, vlt0_string, vlt0_nilp, vlt0_nils, vlt_int, vlt_bool, vlt_string, vlt_nilp, vlt_nils, vlt_ptr, vlt_sl, vlt_agg, vlt_func, List.toArray, Bool.and_true, Bool.true_and, Bool.and_self, Bool.and_eq_true, decide_eq_true_eq, and_true, true_and, new_c, upd_c, relock_c] <;> omega)) )); done) | (with_reducible refine Gd.upd ?_ (by (first | omega )) (by (simp only [objLt_row, objLt_dead, List.all_cons, List.all_nil, vlt1_int, vlt1_bool, vlt1_string, vlt1_nilp, vlt1_nils, vlt1_ptr, vlt1_sl, vlt1_func, vlt0_ptr, vlt0_sl, vlt0_int, vlt0_bool, vlt0_string, vlt0_nilp, vlt0_nils, vlt_int, vlt_bool, vlt_string, vlt_nilp, vlt_nils, vlt_ptr, vlt_sl, vlt_agg, vlt_func, List.toArray, Bool.and_true, Bool.true_and, Bool.and_self, Bool.and_eq_true, decide_eq_true_eq, and_true, true_and, new_c, upd_c, relock_c] <;> omega)); (repeat (first | refine Gd.upd ?_ (by (first | omega )) (by (simp only [objLt_row, objLt_dead, List.all_cons, List.all_nil, vlt1_int, vlt1_bool, vlt1_string, vlt1_nilp, vlt1_nils, vlt1_ptr, vlt1_sl, vlt1_func, vlt0_ptr, vlt0_sl, vlt0_int, vlt0_bool, vlt0_string, vlt0_nilp, vlt0_nils, vlt_int, vlt_bool, vlt_string, vlt_nilp, vlt_nils, vlt_ptr, vlt_sl, vlt_agg, vlt_func, List.toArray, Bool.and_true, Bool.true_and, Bool.and_self, Bool.and_eq_true, decide_eq_true_eq, and_true, true_and, new_c, upd_c, relock_c] <;> omega)) )); done) | (with_reducible refine Gd.relock2 ?_ ?_; rotate_left; simp only [new_c, upd_c, relock_c]; (repeat (first | refine Gd.upd ?_ (by (first | omega )) (by (simp only [objLt_row, objLt_dead, List.all_cons, List.all_nil, vlt1_int, vlt1_bool, vlt1_string, vlt1_nilp, vlt1_nils, vlt1_ptr, vlt1_sl, vlt1_func, vlt0_ptr, vlt0_sl, vlt0_int, vlt0_bool, vlt0_string, vlt0_nilp, vlt0_nils, vlt_int, vlt_bool, vlt_string, vlt_nilp, vlt_nils, vlt_ptr, vlt_sl, vlt_agg, vlt_func, List.toArray, Bool.and_true, Bool.true_and, Bool.and_self, Bool.and_eq_true, decide_eq_true_eq, and_true, true_and, new_c, upd_c, relock_c] <;> omega)) )); done) | (with_reducible refine nat_eq_id ?_; first | fail) | (with_reducible refine Rd.low (by with_reducible assumption) ?_; (repeat (first | refine Low.upd ?_ (by (first | omega )) _)); done) | ((first | fail); simp only [IsT, decide_eq_true_eq, Bool.and_eq_true, Bool.or_eq_true, Bool.not_eq_true', decide_eq_false_iff_not] at *; omega) | fail))) only [hx, k59_1010_0, ↓bindV_some, ↓bindS_some, ↓bindT_some, ↓bindO_some, ↓condK_true, ↓condK_false, ↓condB_true, ↓condB_false, ↓gV_tt, ↓gV_tf, ↓gV_ft, ↓gV_ff, ↓gV_undef, wV_true, wV_false, ↓wO_true, ↓wO_false, ↓wS_true, ↓wS_false, ↓wT_true, ↓wT_false, bindV_some, bindS_some, bindT_some, bindO_some, condK_true, condK_false, ↓gV_t, ↓gV_f, gV_wt, gV_wf, wV_wV, wV_and, wrap64, wrapu32, wrapu8, wrapu64, ↓condK_B, wO_true, wO_false, wS_true, wS_false, wT_true, wT_false, wV_pos, wO_val, wS_val, pick_and, pick_or, pick_bool, pick_int, gcR_B, bindO_B, bin_add, bin_sub, bin_mul, bin_lss, bin_leq, bin_gtr, bin_geq, bin_eql, bin_neq, bin_and, bin_or, bin_xor, bin_andNot, un_not, un_neg, un_compl32, pick_true, pick_false, bin_str_eql, bin_str_neq, ex_nth, nil_ptr, nil_func, box_agg, box_int, box_bool, box_string, box_slice, box_pointer, cell_at, cells_at, put_cons, cellOf_row, cellsOf_row, putOf_row, nth_zero, nth_succ, aggOf_some, new_self, pos1, cast0, cast1, eq_self, new_upd, new_at, new_lo, upd_lo, new_c, new_lock, upd_self, upd_c, upd_lock, relock_heap, relock_c, relock_lock, relock_new, bindO_bindS, bindO_bindO, pick_or2, or_false, false_or, or_true, true_or, or_self, relock2, relock_id, storable_func, box_func, bne_ff, bne_tt, bne_tf, bne_ft, beq_tt, beq_ff, qS_true, unlock_some, splice_nil, splice_cons, decide_true, decide_false, beq_self_eq_true, and_self, and_true, true_and, and_false, false_and, if_true, if_false, Bool.not_true, Bool.not_false, Nat.zero_add, Nat.add_zero, List.length_cons, List.length_nil, List.drop_zero, List.drop_succ_cons, List.take_succ_cons, List.take_zero, List.set_cons_zero, List.set_cons_succ, List.all_cons, List.all_nil, storable_int, storable_bool, storable_string, storable_pointer, storable_slice, Bool.and_true, Bool.true_and, Bool.and_self, bff, bft, not_true_eq_false, not_false_eq_true, Nat.reduceAdd, Nat.reduceSub, Nat.reduceMul, Nat.reduceLeDiff, Nat.reduceLT, Nat.reduceEqDiff, Int.reduceLE, Int.reduceLT, Int.reduceAdd, Int.reduceNeg, Int.reduceEq, Int.reduceSub, Int.reduceMul, Int.reduceToNat, Int.toNat_natCast, Int.toNat_zero, Nat.zero_mul, Nat.mul_one, Bool.or_false, Bool.false_or, Bool.false_and, Bool.and_false, Bool.or_true, Bool.true_or, ↓reduceIte, Nat.le_refl, Option.isNone_some, Option.isNone_none, decide_eq_true_eq, Bool.not_eq_true', Bool.and_eq_true, Bool.or_eq_true, decide_eq_false_iff_not, Bool.not_not, reduceCtorEq, call_10, call_11, call_12, call_13, call_14, call_15, call_16, call_17, call_18, call_19, call_20, call_21, call_22, call_23, call_24, call_25, call_26, call_27, call_28, call_29, call_30, call_31, call_32, call_34, call_35, call_36, call_37, call_38, call_39, call_40, call_41, call_42, call_43, call_44, call_45, call_46, call_47, call_48, call_49, call_50, call_52, call_54, call_56, call_59, call_61, call_63, call_64, call_65, call_66, call_67, call_68, call_69, call_70, clo_33, clo_51, clo_53, clo_55, clo_57, clo_58, clo_60, clo_62, clo_71, ld_2, st_2, ld_3, st_3, ld_4, st_4, beql_4, bneq_4, ld_5, st_5, ld_22, st_22, len_22, ix_22, bsl_22, ld_23, st_23, len_23, ix_23, bsl_23, ld_24, st_24, len_24, ix_24, bsl_24, fa_26_0, fa_26_1, fa_26_2, fa_26_3, fa_26_4, fa_26_5, fa_26_6, fa_26_7, fa_26_8, ld_26, st_26, ld_30, st_30, fa_32_0, fa_32_1, fa_32_2, fa_32_3, ld_32, st_32, bseql_32, bsneq_32, ld_33, st_33, ixa_33, ld_45, st_45, len_45, ix_45, bsl_45, fa_47_0, fa_47_1, fa_47_2, fa_47_3, ld_47, st_47, bseql_47, bsneq_47, ld_48, st_48, ixa_48, ld_56, st_56, ld_57, st_57, len_57, ix_57, bsl_57, ld_70, st_70, ld_75, st_75, al_26, al_32, al_33, al_47, al_70, bu_26_0_1_2_3_4_8, bu_32_0_1_2_3, bu_33_0_1_2_3_4, bs_22_1_0, bs_23_0_, bs_23_1_0, bs_24_0_, bs_24_1_0, bs_45_0_, bs_45_1_0, bs_45_2_0_1, bs_57_1_0, ixv_33_i64_2, ixv_33_i64_4, cv_3_56, cv_5_3]
    rw [List.drop_eq_nil_of_le (by omega)]
    exact Wp.leaf rfl (Low.rfl' S)
  | n + 1, j, hn, S, g, rd, aS, hb => by
    have hj : j < l.length := by omega
    have hx : (j : Int) < l.length := by omega
    have e2 : IntKind.i64.wrap ((j : Int) + 1) = ((j + 1 : Nat) : Int) := by rw [wrap64 (by omega) (by omega)]; omega
    have hlt := row_lt g.ok hb
    have hk0 := rd
    have hma := List.getElem_mem hj
    have etk : l.take (j + 1) = l.take j ++ [l[j]] := by rw [List.take_add_one, List.getElem?_eq_getElem hj]; rfl
    rw [List.drop_eq_getElem_cons hj, pairsB, ← etk]
    obtain ⟨b, o, cp, rfl, hbS, hr⟩ := rd.at (by omega)
    have e5 := (hr j hj).1
    generalize l[j] = a at *
    rw [show NT.k = 4 from rfl, show NT.cs a = [.int .i64 a.f, .int .u32 (a.t : Int), .int .i64 a.ph, .int .i64 a.sz] from rfl] at e5
    have g1 : Gd W (S.new (.row [.int .i64 a.f, .int .u32 (a.t : Int), .int .i64 a.ph, .int .i64 a.sz] 0)) := g.new rfl
    have x1 : Ext [] S (S.new (.row [.int .i64 a.f, .int .u32 (a.t : Int), .int .i64 a.ph, .int .i64 a.sz] 0)) := Ext.new g.ok rfl
    have hb1 : (S.new (.row [.int .i64 a.f, .int .u32 (a.t : Int), .int .i64 a.ph, .int .i64 a.sz] 0)).heap bf = S.heap bf := new_lo _ hlt
    have rd1 := hk0.low x1.low
    obtain ⟨w, eS, rdw⟩ := rd_cut Try.underlying23 (by kernel_rfl) rd1 (i := j) (by omega) (by omega)
    have eA := anyN g1 (.func (.func 71) #[] #[.pointer (some ⟨bf, 0, none⟩), .pointer (some ⟨S.c, 0, none⟩)]) (by rw [vlt_func]; simp; omega) (l.take j) (by rw [List.length_take]; omega) (bad a) rdw (fun x hx => by
      rw [clo_71]
      exact p1_eq g1 x a fv (hb1.trans hb) hW (new_self _) (by have := g.n; omega) (bad a x) fun U gU aU => hf a hma x (List.mem_of_mem_take hx) U gU ((aS.trans (Abv.of x1.low)).trans aU))
    have fin := pairs_loop S0 l hlen bad fv bf hW hf _ y1 y2 n (j + 1) (by omega) _ g1 rd1 (aS.trans (Abv.of x1.low)) (hb1.trans hb)
    have hN := g.n; have hL : S.lock ≤ S.c := g.ok.1
    rw [r59_1010]
    cases hq : (l.take j).any (bad a)
    · rw [hq] at eA
      simp -implicitDefEqProofs (maxSteps := 1000000) (disch := (refine id ?_; first | ((first | fail); (first | (refine Nat.le_trans hL ?_; simp +arith only [new_c, new_lock, upd_c, upd_lock, relock_c, relock_lock]; done) | fail)) | ((fail_if_success (with_reducible apply isT_of)); (fail_if_success (first | fail)); first | (refine Nat.le_trans hL ?_; simp +arith only [new_c, new_lock, upd_c, upd_lock, relock_c, relock_lock]; done) | omega | (with_reducible refine Low.new ?_ _; (repeat (first | refine Low.upd ?_ (by (first | omega )) _)); done) | (with_reducible refine Low.upd ?_ (by (first | omega )) _; (repeat (first | refine Low.upd ?_ (by (first | omega )) _)); done) | (with_reducible refine Gd.new ?_ (by (simp only [objLt_row, objLt_dead, List.all_cons, List.all_nil, vlt1_int, vlt1_bool, vlt1_string, vlt1_nilp, vlt1_nils, vlt1_ptr, vlt1_sl, vlt1_func, vlt0_ptr, vlt0_sl, vlt0_int, vlt0_bool, vlt0_string, vlt0_nilp, vlt0_nils, vlt_int, vlt_bool, vlt_string, vlt_nilp, vlt_nils, vlt_ptr, vlt_sl, vlt_agg, vlt_func, List.toArray, Bool.and_true, Bool.true_and, Bool.and_self, Bool.and_eq_true, decide_eq_true_eq, and_true, true_and, new_c, upd_c, relock_c] <;> omega)); (repeat (first | refine Gd.upd ?_ (by (first | omega )) (by (simp only [objLt_row, objLt_dead, List.all_cons, List.all_nil, vlt1_int, vlt1_bool, vlt1_string, vlt1_nilp, vlt1_nils, vlt1_ptr, vlt1_sl, vlt1_func, vlt0_ptr, vlt0_sl, vlt0_int, vlt0_bool, vlt0_string, vlt0_nilp, vlt0_nils, vlt_int, vlt_bool, vlt_string, vlt_nilp, vlt_nils, vlt_ptr, vlt_sl, vlt_agg, vlt_func, List.toArray, Bool.and_true, Bool.true_and, Bool.and_self, Bool.and_eq_true, decide_eq_true_eq, and_true, true_and, new_c, upd_c, relock_c] <;> omega)) )); done) | (with_reducible refine Gd.upd ?_ (by (first | omega )) (by (simp only [objLt_row, objLt_dead, List.all_cons, List.all_nil, vlt1_int, vlt1_bool, vlt1_string, vlt1_nilp, vlt1_nils, vlt1_ptr, vlt1_sl, vlt1_func, vlt0_ptr, vlt0_sl, vlt0_int, vlt0_bool, vlt0_string, vlt0_nilp, vlt0_nils, vlt_int, vlt_bool, vlt_string, vlt_nilp, vlt_nils, vlt_ptr, vlt_sl, vlt_agg, vlt_func, List.toArray, Bool.and_true, Bool.true_and, Bool.and_self, Bool.and_eq_true, decide_eq_true_eq, and_true, true_and, new_c, upd_c, relock_c] <;> omega)); (repeat (first | refine Gd.upd ?_ (by (first | omega )) (by (simp only [objLt_row, objLt_dead, List.all_cons, List.all_nil, vlt1_int, vlt1_bool, vlt1_string, vlt1_nilp, vlt1_nils, vlt1_ptr, vlt1_sl, vlt1_func, vlt0_ptr, vlt0_sl, vlt0_int, vlt0_bool, vlt0_string, vlt0_nilp, vlt0_nils, vlt_int, vlt_bool, vlt_string, vlt_nilp, vlt_nils, vlt_ptr, vlt_sl, vlt_agg, vlt_func, List.toArray, Bool.and_true, Bool.true_and, Bool.and_self, Bool.and_eq_true, decide_eq_true_eq, and_true, true_and, new_c, upd_c, relock_c] <;> omega)) )); done) | (with_reducible refine Gd.relock2 ?_ ?_; rotate_left; simp only [new_c, upd_c, relock_c]; (repeat (first | refine Gd.upd ?_ (by (first | omega )) (by (simp only [objLt_row, objLt_dead, List.all_cons, List.all_nil, vlt1_int, vlt1_bool, vlt1_string, vlt1_nilp, vlt1_nils, vlt1_ptr, vlt1_sl, vlt1_func, vlt0_ptr, vlt0_sl, vlt0_int, vlt0_bool, vlt0_string, vlt0_nilp, vlt0_nils, vlt_int, vlt_bool, vlt_string, vlt_nilp, vlt_nils, vlt_ptr, vlt_sl, vlt_agg, vlt_func, List.toArray, Bool.and_true, Bool.true_and, Bool.and_self, Bool.and_eq_true, decide_eq_true_eq, and_true, true_and, new_c, upd_c, relock_c] <;> omega)) )); done) | (with_reducible refine nat_eq_id ?_; first | fail) | (with_reducible refine Rd.low (by with_reducible assumption) ?_; (repeat (first | refine Low.upd ?_ (by (first | omega )) _)); done) | ((first | fail); simp only [IsT, decide_eq_true_eq, Bool.and_eq_true, Bool.or_eq_true, Bool.not_eq_true', decide_eq_false_iff_not] at *; omega) | fail))) only [hx, e2, e5, eS, eA, k59_1010_ret, ↓bindV_some, ↓bindS_some, ↓bindT_some, ↓bindO_some, ↓condK_true, ↓condK_false, ↓condB_true, ↓condB_false, ↓gV_tt, ↓gV_tf, ↓gV_ft, ↓gV_ff, ↓gV_undef, wV_true, wV_false, ↓wO_true, ↓wO_false, ↓wS_true, ↓wS_false, ↓wT_true, ↓wT_false, bindV_some, bindS_some, bindT_some, bindO_some, condK_true, condK_false, ↓gV_t, ↓gV_f, gV_wt, gV_wf, wV_wV, wV_and, wrap64, wrapu32, wrapu8, wrapu64, ↓condK_B, wO_true, wO_false, wS_true, wS_false, wT_true, wT_false, wV_pos, wO_val, wS_val, pick_and, pick_or, pick_bool, pick_int, gcR_B, bindO_B, bin_add, bin_sub, bin_mul, bin_lss, bin_leq, bin_gtr, bin_geq, bin_eql, bin_neq, bin_and, bin_or, bin_xor, bin_andNot, un_not, un_neg, un_compl32, pick_true, pick_false, bin_str_eql, bin_str_neq, ex_nth, nil_ptr, nil_func, box_agg, box_int, box_bool, box_string, box_slice, box_pointer, cell_at, cells_at, put_cons, cellOf_row, cellsOf_row, putOf_row, nth_zero, nth_succ, aggOf_some, new_self, pos1, cast0, cast1, eq_self, new_upd, new_at, new_lo, upd_lo, new_c, new_lock, upd_self, upd_c, upd_lock, relock_heap, relock_c, relock_lock, relock_new, bindO_bindS, bindO_bindO, pick_or2, or_false, false_or, or_true, true_or, or_self, relock2, relock_id, storable_func, box_func, bne_ff, bne_tt, bne_tf, bne_ft, beq_tt, beq_ff, qS_true, unlock_some, splice_nil, splice_cons, decide_true, decide_false, beq_self_eq_true, and_self, and_true, true_and, and_false, false_and, if_true, if_false, Bool.not_true, Bool.not_false, Nat.zero_add, Nat.add_zero, List.length_cons, List.length_nil, List.drop_zero, List.drop_succ_cons, List.take_succ_cons, List.take_zero, List.set_cons_zero, List.set_cons_succ, List.all_cons, List.all_nil, storable_int, storable_bool, storable_string, storable_pointer, storable_slice, Bool.and_true, Bool.true_and, Bool.and_self, bff, bft, not_true_eq_false, not_false_eq_true, Nat.reduceAdd, Nat.reduceSub, Nat.reduceMul, Nat.reduceLeDiff, Nat.reduceLT, Nat.reduceEqDiff, Int.reduceLE, Int.reduceLT, Int.reduceAdd, Int.reduceNeg, Int.reduceEq, Int.reduceSub, Int.reduceMul, Int.reduceToNat, Int.toNat_natCast, Int.toNat_zero, Nat.zero_mul, Nat.mul_one, Bool.or_false, Bool.false_or, Bool.false_and, Bool.and_false, Bool.or_true, Bool.true_or, ↓reduceIte, Nat.le_refl, Option.isNone_some, Option.isNone_none, decide_eq_true_eq, Bool.not_eq_true', Bool.and_eq_true, Bool.or_eq_true, decide_eq_false_iff_not, Bool.not_not, reduceCtorEq, call_10, call_11, call_12, call_13, call_14, call_15, call_16, call_17, call_18, call_19, call_20, call_21, call_22, call_23, call_24, call_25, call_26, call_27, call_28, call_29, call_30, call_31, call_32, call_34, call_35, call_36, call_37, call_38, call_39, call_40, call_41, call_42, call_43, call_44, call_45, call_46, call_47, call_48, call_49, call_50, call_52, call_54, call_56, call_59, call_61, call_63, call_64, call_65, call_66, call_67, call_68, call_69, call_70, clo_33, clo_51, clo_53, clo_55, clo_57, clo_58, clo_60, clo_62, clo_71, ld_2, st_2, ld_3, st_3, ld_4, st_4, beql_4, bneq_4, ld_5, st_5, ld_22, st_22, len_22, ix_22, bsl_22, ld_23, st_23, len_23, ix_23, bsl_23, ld_24, st_24, len_24, ix_24, bsl_24, fa_26_0, fa_26_1, fa_26_2, fa_26_3, fa_26_4, fa_26_5, fa_26_6, fa_26_7, fa_26_8, ld_26, st_26, ld_30, st_30, fa_32_0, fa_32_1, fa_32_2, fa_32_3, ld_32, st_32, bseql_32, bsneq_32, ld_33, st_33, ixa_33, ld_45, st_45, len_45, ix_45, bsl_45, fa_47_0, fa_47_1, fa_47_2, fa_47_3, ld_47, st_47, bseql_47, bsneq_47, ld_48, st_48, ixa_48, ld_56, st_56, ld_57, st_57, len_57, ix_57, bsl_57, ld_70, st_70, ld_75, st_75, al_26, al_32, al_33, al_47, al_70, bu_26_0_1_2_3_4_8, bu_32_0_1_2_3, bu_33_0_1_2_3_4, bs_22_1_0, bs_23_0_, bs_23_1_0, bs_24_0_, bs_24_1_0, bs_45_0_, bs_45_1_0, bs_45_2_0_1, bs_57_1_0, ixv_33_i64_2, ixv_33_i64_4, cv_3_56, cv_5_3]
      exact fin.mono fun r h => ⟨h.1, x1.low.trans h.2⟩
    · rw [hq] at eA
      simp -implicitDefEqProofs (maxSteps := 1000000) (disch := (refine id ?_; first | ((first | fail); (first | (refine Nat.le_trans hL ?_; simp +arith only [new_c, new_lock, upd_c, upd_lock, relock_c, relock_lock]; done) | fail)) | ((fail_if_success (with_reducible apply isT_of)); (fail_if_success (first | fail)); first | (refine Nat.le_trans hL ?_; simp +arith only [new_c, new_lock, upd_c, upd_lock, relock_c, relock_lock]; done) | omega | (with_reducible refine Low.new ?_ _; (repeat (first | refine Low.upd ?_ (by (first | omega )) _)); done) | (with_reducible refine Low.upd ?_ (by (first | omega )) _; (repeat (first | refine Low.upd ?_ (by (first | omega )) _)); done) | (with_reducible refine Gd.new ?_ (by (simp only [objLt_row, objLt_dead, List.all_cons, List.all_nil, vlt1_int, vlt1_bool, vlt1_string, vlt1_nilp, vlt1_nils, vlt1_ptr, vlt1_sl, vlt1_func, vlt0_ptr, vlt0_sl, vlt0_int, vlt0_bool, vlt0_string, vlt0_nilp, vlt0_nils, vlt_int, vlt_bool, vlt_string, vlt_nilp, vlt_nils, vlt_ptr, vlt_sl, vlt_agg, vlt_func, List.toArray, Bool.and_true, Bool.true_and, Bool.and_self, Bool.and_eq_true, decide_eq_true_eq, and_true, true_and, new_c, upd_c, relock_c] <;> omega)); (repeat (first | refine Gd.upd ?_ (by (first | omega )) (by (simp only [objLt_row, objLt_dead, List.all_cons, List.all_nil, vlt1_int, vlt1_bool, vlt1_string, vlt1_nilp, vlt1_nils, vlt1_ptr, vlt1_sl, vlt1_func, vlt0_ptr, vlt0_sl, vlt0_int, vlt0_bool, vlt0_string, vlt0_nilp, vlt0_nils, vlt_int, vlt_bool, vlt_string, vlt_nilp, vlt_nils, vlt_ptr, vlt_sl, vlt_agg, vlt_func, List.toArray, Bool.and_true, Bool.true_and, Bool.and_self, Bool.and_eq_true, decide_eq_true_eq, and_true, true_and, new_c, upd_c, relock_c] <;> omega)) )); done) | (with_reducible refine Gd.upd ?_ (by (first | omega )) (by (simp only [objLt_row, objLt_dead, List.all_cons, List.all_nil, vlt1_int, vlt1_bool, vlt1_string, vlt1_nilp, vlt1_nils, vlt1_ptr, vlt1_sl, vlt1_func, vlt0_ptr, vlt0_sl, vlt0_int, vlt0_bool, vlt0_string, vlt0_nilp, vlt0_nils, vlt_int, vlt_bool, vlt_string, vlt_nilp, vlt_nils, vlt_ptr, vlt_sl, vlt_agg, vlt_func, List.toArray, Bool.and_true, Bool.true_and, Bool.and_self, Bool.and_eq_true, decide_eq_true_eq, and_true, true_and, new_c, upd_c, relock_c] <;> omega)); (repeat (first | refine Gd.upd ?_ (by (first | omega )) (by (simp only [objLt_row, objLt_dead, List.all_cons, List.all_nil, vlt1_int, vlt1_bool, vlt1_string, vlt1_nilp, vlt1_nils, vlt1_ptr, vlt1_sl, vlt1_func, vlt0_ptr, vlt0_sl, vlt0_int, vlt0_bool, vlt0_string, vlt0_nilp, vlt0_nils, vlt_int, vlt_bool, vlt_string, vlt_nilp, vlt_nils, vlt_ptr, vlt_sl, vlt_agg, vlt_func, List.toArray, Bool.and_true, Bool.true_and, Bool.and_self, Bool.and_eq_true, decide_eq_true_eq, and_true, true_and, new_c, upd_c, relock_c] <;> omega)) )); done) | (with_reducible refine Gd.relock2 ?_ ?_; rotate_left; simp only [new_c, upd_c, relock_c]; (repeat (first | refine Gd.upd ?_ (by (first | omega )) (by (simp only [objLt_row, objLt_dead, List.all_cons, List.all_nil, vlt1_int, vlt1_bool, vlt1_string, vlt1_nilp, vlt1_nils, vlt1_ptr, vlt1_sl, vlt1_func, vlt0_ptr, vlt0_sl, vlt0_int, vlt0_bool, vlt0_string, vlt0_nilp, vlt0_nils, vlt_int, vlt_bool, vlt_string, vlt_nilp, vlt_nils, vlt_ptr, vlt_sl, vlt_agg, vlt_func, List.toArray, Bool.and_true, Bool.true_and, Bool.and_self, Bool.and_eq_true, decide_eq_true_eq, and_true, true_and, new_c, upd_c, relock_c] <;> omega)) )); done) | (with_reducible refine nat_eq_id ?_; first | fail) | (with_reducible refine Rd.low (by with_reducible assumption) ?_; (repeat (first | refine Low.upd ?_ (by (first | omega )) _)); done) | ((first | fail); simp only [IsT, decide_eq_true_eq, Bool.and_eq_true, Bool.or_eq_true, Bool.not_eq_true', decide_eq_false_iff_not] at *; omega) | fail))) only [hx, e2, e5, eS, eA, k59_1010_ret, ↓bindV_some, ↓bindS_some, ↓bindT_some, ↓bindO_some, ↓condK_true, ↓condK_false, ↓condB_true, ↓condB_false, ↓gV_tt, ↓gV_tf, ↓gV_ft, ↓gV_ff, ↓gV_undef, wV_true, wV_false, ↓wO_true, ↓wO_false, ↓wS_true, ↓wS_false, ↓wT_true, ↓wT_false, bindV_some, bindS_some, bindT_some, bindO_some, condK_true, condK_false, ↓gV_t, ↓gV_f, gV_wt, gV_wf, wV_wV, wV_and, wrap64, wrapu32, wrapu8, wrapu64, ↓condK_B, wO_true, wO_false, wS_true, wS_false, wT_true, wT_false, wV_pos, wO_val, wS_val, pick_and, pick_or, pick_bool, pick_int, gcR_B, bindO_B, bin_add, bin_sub, bin_mul, bin_lss, bin_leq, bin_gtr, bin_geq, bin_eql, bin_neq, bin_and, bin_or, bin_xor, bin_andNot, un_not, un_neg, un_compl32, pick_true, pick_false, bin_str_eql, bin_str_neq, ex_nth, nil_ptr, nil_func, box_agg, box_int, box_bool, box_string, box_slice, box_pointer, cell_at, cells_at, put_cons, cellOf_row, cellsOf_row, putOf_row, nth_zero, nth_succ, aggOf_some, new_self, pos1, cast0, cast1, eq_self, new_upd, new_at, new_lo, upd_lo, new_c, new_lock, upd_self, upd_c, upd_lock, relock_heap, relock_c, relock_lock, relock_new, bindO_bindS, bindO_bindO, pick_or2, or_false, false_or, or_true, true_or, or_self, relock2, relock_id, storable_func, box_func, bne_ff, bne_tt, bne_tf, bne_ft, beq_tt, beq_ff, qS_true, unlock_some, splice_nil, splice_cons, decide_true, decide_false, beq_self_eq_true, and_self, and_true, true_and, and_false, false_and, if_true, if_false, Bool.not_true, Bool.not_false, Nat.zero_add, Nat.add_zero, List.length_cons, List.length_nil, List.drop_zero, List.drop_succ_cons, List.take_succ_cons, List.take_zero, List.set_cons_zero, List.set_cons_succ, List.all_cons, List.all_nil, storable_int, storable_bool, storable_string, storable_pointer, storable_slice, Bool.and_true, Bool.true_and, Bool.and_self, bff, bft, not_true_eq_false, not_false_eq_true, Nat.reduceAdd, Nat.reduceSub, Nat.reduceMul, Nat.reduceLeDiff, Nat.reduceLT, Nat.reduceEqDiff, Int.reduceLE, Int.reduceLT, Int.reduceAdd, Int.reduceNeg, Int.reduceEq, Int.reduceSub, Int.reduceMul, Int.reduceToNat, Int.toNat_natCast, Int.toNat_zero, Nat.zero_mul, Nat.mul_one, Bool.or_false, Bool.false_or, Bool.false_and, Bool.and_false, Bool.or_true, Bool.true_or, ↓reduceIte, Nat.le_refl, Option.isNone_some, Option.isNone_none, decide_eq_true_eq, Bool.not_eq_true', Bool.and_eq_true, Bool.or_eq_true, decide_eq_false_iff_not, Bool.not_not, reduceCtorEq, call_10, call_11, call_12, call_13, call_14, call_15, call_16, call_17, call_18, call_19, call_20, call_21, call_22, call_23, call_24, call_25, call_26, call_27, call_28, call_29, call_30, call_31, call_32, call_34, call_35, call_36, call_37, call_38, call_39, call_40, call_41, call_42, call_43, call_44, call_45, call_46, call_47, call_48, call_49, call_50, call_52, call_54, call_56, call_59, call_61, call_63, call_64, call_65, call_66, call_67, call_68, call_69, call_70, clo_33, clo_51, clo_53, clo_55, clo_57, clo_58, clo_60, clo_62, clo_71, ld_2, st_2, ld_3, st_3, ld_4, st_4, beql_4, bneq_4, ld_5, st_5, ld_22, st_22, len_22, ix_22, bsl_22, ld_23, st_23, len_23, ix_23, bsl_23, ld_24, st_24, len_24, ix_24, bsl_24, fa_26_0, fa_26_1, fa_26_2, fa_26_3, fa_26_4, fa_26_5, fa_26_6, fa_26_7, fa_26_8, ld_26, st_26, ld_30, st_30, fa_32_0, fa_32_1, fa_32_2, fa_32_3, ld_32, st_32, bseql_32, bsneq_32, ld_33, st_33, ixa_33, ld_45, st_45, len_45, ix_45, bsl_45, fa_47_0, fa_47_1, fa_47_2, fa_47_3, ld_47, st_47, bseql_47, bsneq_47, ld_48, st_48, ixa_48, ld_56, st_56, ld_57, st_57, len_57, ix_57, bsl_57, ld_70, st_70, ld_75, st_75, al_26, al_32, al_33, al_47, al_70, bu_26_0_1_2_3_4_8, bu_32_0_1_2_3, bu_33_0_1_2_3_4, bs_22_1_0, bs_23_0_, bs_23_1_0, bs_24_0_, bs_24_1_0, bs_45_0_, bs_45_1_0, bs_45_2_0_1, bs_57_1_0, ixv_33_i64_2, ixv_33_i64_4, cv_3_56, cv_5_3]
      exact Wp.leaf rfl x1.low
theorem pairs_eq (g : Gd W S) (l : List En) (hlen : l.length ≤ 2 ^ 60) (bad : En → En → Bool) (fv : Value) (hv : vlt S.c fv = true) (hst : objLt (S.c + 1) (.row [fv] 0) = true) (hf : ∀ a ∈ l, ∀ b ∈ l, ∀ U, Gd W U → Abv S U → aCall p (cw W) U fv #[evl a, evl b] = some (.bool (bad a b), U)) {v : Value} (rd : Rd NT W S v l) (hs : ∀ U : St, aBox U fv = some (.pointer (some ⟨U.c, 0, none⟩), U.new (.row [fv] 0))) : cw W 59 #[v, fv] S = some (.bool (pairsB bad [] l), S) := by
  have hsv : vlt S.c v = true := by
    obtain ⟨a, c, rfl⟩ := rd.form
    have := rd.vlt
    cases a <;> exact this
  have ha : [v, fv].all (vlt S.c) = true := by rw [List.all_cons, hsv, List.all_cons, hv]; rfl
  have g1 : Gd W (S.new (.row [fv] 0)) := g.new hst
  have x1 : Ext [] S (S.new (.row [fv] 0)) := Ext.new g.ok hst
  have rd1 := rd.low x1.low
  rw [eq59]
  have hN := g.n; have hL : S.lock ≤ S.c := g.ok.1
  refine gcR_wp (args := [_, _]) g ha rfl ?_
  obtain ⟨a, c, rfl⟩ := rd.form
  simp -implicitDefEqProofs (maxSteps := 1000000) (disch := (refine id ?_; first | ((first | fail); (first | fail)) | ((fail_if_success (with_reducible apply isT_of)); (fail_if_success (first | fail)); first | (with_reducible refine Low.new ?_ _; (repeat (first | refine Low.upd ?_ (by (first | fail)) _)); done) | (with_reducible refine Low.upd ?_ (by (first | fail)) _; (repeat (first | refine Low.upd ?_ (by (first | fail)) _)); done) | (with_reducible refine Gd.new ?_ (by (simp only [objLt_row, objLt_dead, List.all_cons, List.all_nil, vlt1_int, vlt1_bool, vlt1_string, vlt1_nilp, vlt1_nils, vlt1_ptr, vlt1_sl, vlt1_func, vlt0_ptr, vlt0_sl, vlt0_int, vlt0_bool, vlt0_string, vlt0_nilp, vlt0_nils, vlt_int, vlt_bool, vlt_string, vlt_nilp, vlt_nils, vlt_ptr, vlt_sl, vlt_agg, vlt_func, List.toArray, Bool.and_true, Bool.true_and, Bool.and_self, Bool.and_eq_true, decide_eq_true_eq, and_true, true_and, new_c, upd_c, relock_c] <;> omega)); (repeat (first | refine Gd.upd ?_ (by (first | fail)) (by (simp only [objLt_row, objLt_dead, List.all_cons, List.all_nil, vlt1_int, vlt1_bool, vlt1_string, vlt1_nilp, vlt1_nils, vlt1_ptr, vlt1_sl, vlt1_func, vlt0_ptr, vlt0_sl, vlt0_int, vlt0_bool, vlt0_string, vlt0_nilp, vlt0_nils, vlt_int, vlt_bool, vlt_string, vlt_nilp, vlt_nils, vlt_ptr, vlt_sl, vlt_agg, vlt_func, List.toArray, Bool.and_true, Bool.true_and, Bool.and_self, Bool.and_eq_true, decide_eq_true_eq, and_true, true_and, new_c, upd_c, relock_c] <;> omega)) )); done) | (with_reducible refine Gd.upd ?_ (by (first | fail)) (by (simp only [objLt_row, objLt_dead, List.all_cons, List.all_nil, vlt1_int, vlt1_bool, vlt1_string, vlt1_nilp, vlt1_nils, vlt1_ptr, vlt1_sl, vlt1_func, vlt0_ptr, vlt0_sl, vlt0_int, vlt0_bool, vlt0_string, vlt0_nilp, vlt0_nils, vlt_int, vlt_bool, vlt_string, vlt_nilp, vlt_nils, vlt_ptr, vlt_sl, vlt_agg, vlt_func, List.toArray, Bool.and_true, Bool.true_and, Bool.and_self, Bool.and_eq_true, decide_eq_true_eq, and_true, true_and, new_c, upd_c, relock_c] <;> omega)); (repeat (first | refine Gd.upd ?_ (by (first | fail)) (by (simp only [objLt_row, objLt_dead, List.all_cons, List.all_nil, vlt1_int, vlt1_bool, vlt1_string, vlt1_nilp, vlt1_nils, vlt1_ptr, vlt1_sl, vlt1_func, vlt0_ptr, vlt0_sl, vlt0_int, vlt0_bool, vlt0_string, vlt0_nilp, vlt0_nils, vlt_int, vlt_bool, vlt_string, vlt_nilp, vlt_nils, vlt_ptr, vlt_sl, vlt_agg, vlt_func, List.toArray, Bool.and_true, Bool.true_and, Bool.and_self, Bool.and_eq_true, decide_eq_true_eq, and_true, true_and, new_c, upd_c, relock_c] <;> omega)) )); done) | (with_reducible refine Gd.relock2 ?_ ?_; rotate_left; simp only [new_c, upd_c, relock_c]; (repeat (first | refine Gd.upd ?_ (by (first | fail)) (by (simp only [objLt_row, objLt_dead, List.all_cons, List.all_nil, vlt1_int, vlt1_bool, vlt1_string, vlt1_nilp, vlt1_nils, vlt1_ptr, vlt1_sl, vlt1_func, vlt0_ptr, vlt0_sl, vlt0_int, vlt0_bool, vlt0_string, vlt0_nilp, vlt0_nils, vlt_int, vlt_bool, vlt_string, vlt_nilp, vlt_nils, vlt_ptr, vlt_sl, vlt_agg, vlt_func, List.toArray, Bool.and_true, Bool.true_and, Bool.and_self, Bool.and_eq_true, decide_eq_true_eq, and_true, true_and, new_c, upd_c, relock_c] <;> omega)) )); done) | (with_reducible refine nat_eq_id ?_; first | fail) | (with_reducible refine Rd.low (by with_reducible assumption) ?_; (repeat (first | refine Low.upd ?_ (by (first | fail)) _)); done) | ((first | fail); simp only [IsT, decide_eq_true_eq, Bool.and_eq_true, Bool.or_eq_true, Bool.not_eq_true', decide_eq_false_iff_not] at *; omega) | fail))) only [hs, ↓bindV_some, ↓bindS_some, bindV_some, bindS_some, new_self, List.all_cons, Nat.reduceAdd, Nat.reduceSub, Nat.reduceMul, Nat.reduceLeDiff, Nat.reduceLT, Nat.reduceEqDiff, Int.reduceLE, Int.reduceLT, Int.reduceAdd, Int.reduceNeg, Int.reduceEq, Int.reduceSub, Int.reduceMul, Int.reduceToNat, ↓reduceIte, reduceCtorEq, len_23]
  refine (pairs_loop S l hlen bad fv S.c hN hf _ _ _ l.length 0 rfl _ g1 rd1 (Abv.of x1.low) (new_self _)).mono fun r h => ⟨h.1, x1.low.trans h.2⟩
end
end Go.Proofs.Ytogcdgdnjinjkaa.F
end
section
namespace Go.Proofs.Ytogcdgdnjinjkaa.F
open Go Go.Proofs.Ytogcdgdnjinjkaa.E
set_option linter.unusedVariables false
set_option linter.unusedSimpArgs false
def same (a b : En) : Bool := decide (a.f = b.f) && meets a.ph (tm a.sz) b.ph (tm b.sz)
def both (c : Cfg) (a b : En) : Bool := decide (a.t &&& b.t ≠ 0) && meets (forward c a) (tm a.sz) (forward c b) (tm b.sz)
def scheduleN (c : Cfg) : Int := if 16 < c.entries.length then 5 else if c.entries.any (badRoute c) then 5 else if c.entries.any (badTime c) then 6 else if pairsB same [] c.entries then 7 else if pairsB (both c) [] c.entries then 8 else 0
section
variable {W : World} {S : St}
set_option maxHeartbeats 1000000 in
theorem schedule_eq (g : Gd W S) (c : Cfg) (q : Pl) (h : CfgAt W S c q) (hh : 1 ≤ c.hosts ∧ c.hosts ≤ 6) (hs : c.spans = true) (hcy : c.cycle ≤ 1073741824) : cw W 31 #[cvl c q] S = some (i64 (scheduleN c), S) := by
  rw [eq31]
  have hN := g.n; have hL : S.lock ≤ S.c := g.ok.1
  have hq := h.vlt
  have g1 := g.new (o := .row [Value.int .i64 c.hosts, .int .i64 c.cycle, .int .i64 c.delay, .int .i64 c.window, .int .i64 c.prec, .slice q.ad c.delays.length q.cd, .slice q.ae c.entries.length q.ce, .slice q.al c.links.length q.cl, .int .i64 c.queue] 0) (objLt_mono (Nat.le_succ _) (cvl_obj hq))
  have hq1 : vlt (S.c + 1) (cvl c q) = true := vlt_mono (by omega) hq
  have ha : [cvl c q].all (vlt S.c) = true := by rw [List.all_cons, hq]; rfl
  have g2 : Gd W ((S.new (.row [Value.int .i64 c.hosts, .int .i64 c.cycle, .int .i64 c.delay, .int .i64 c.window, .int .i64 c.prec, .slice q.ad c.delays.length q.cd, .slice q.ae c.entries.length q.ce, .slice q.al c.links.length q.cl, .int .i64 c.queue] 0)).new (.row [.func (.func 54) #[] #[]] 0)) := g1.new (by simp)
  have g3 : Gd W (((S.new (.row [Value.int .i64 c.hosts, .int .i64 c.cycle, .int .i64 c.delay, .int .i64 c.window, .int .i64 c.prec, .slice q.ad c.delays.length q.cd, .slice q.ae c.entries.length q.ce, .slice q.al c.links.length q.cl, .int .i64 c.queue] 0)).new (.row [.func (.func 54) #[] #[]] 0)).new (.row [.func (.func 55) #[] #[.pointer (some ⟨S.c, 0, none⟩)]] 0)) := g2.new (by simp; omega)
  have lw : Low S (((S.new (.row [Value.int .i64 c.hosts, .int .i64 c.cycle, .int .i64 c.delay, .int .i64 c.window, .int .i64 c.prec, .slice q.ad c.delays.length q.cd, .slice q.ae c.entries.length q.ce, .slice q.al c.links.length q.cl, .int .i64 c.queue] 0)).new (.row [.func (.func 54) #[] #[]] 0)).new (.row [.func (.func 55) #[] #[.pointer (some ⟨S.c, 0, none⟩)]] 0)) := Low.new (Low.new (Low.new (Low.rfl' S) _) _) _
  have hb : (((S.new (.row [Value.int .i64 c.hosts, .int .i64 c.cycle, .int .i64 c.delay, .int .i64 c.window, .int .i64 c.prec, .slice q.ad c.delays.length q.cd, .slice q.ae c.entries.length q.ce, .slice q.al c.links.length q.cl, .int .i64 c.queue] 0)).new (.row [.func (.func 54) #[] #[]] 0)).new (.row [.func (.func 55) #[] #[.pointer (some ⟨S.c, 0, none⟩)]] 0)).heap S.c = .row (ccs c q) 0 := by rw [new_lo _ (by simp only [new_c]; omega), new_lo _ (by simp only [new_c]; omega)]; exact new_self _
  have hb1 : (((S.new (.row [Value.int .i64 c.hosts, .int .i64 c.cycle, .int .i64 c.delay, .int .i64 c.window, .int .i64 c.prec, .slice q.ad c.delays.length q.cd, .slice q.ae c.entries.length q.ce, .slice q.al c.links.length q.cl, .int .i64 c.queue] 0)).new (.row [.func (.func 54) #[] #[]] 0)).new (.row [.func (.func 55) #[] #[.pointer (some ⟨S.c, 0, none⟩)]] 0)).heap (S.c + 1) = .row [.func (.func 54) #[] #[]] 0 := by rw [new_lo _ (by simp only [new_c]; omega)]; exact new_self _
  have hb2 : (((S.new (.row [Value.int .i64 c.hosts, .int .i64 c.cycle, .int .i64 c.delay, .int .i64 c.window, .int .i64 c.prec, .slice q.ad c.delays.length q.cd, .slice q.ae c.entries.length q.ce, .slice q.al c.links.length q.cl, .int .i64 c.queue] 0)).new (.row [.func (.func 54) #[] #[]] 0)).new (.row [.func (.func 55) #[] #[.pointer (some ⟨S.c, 0, none⟩)]] 0)).heap (S.c + 1 + 1) = .row [.func (.func 55) #[] #[.pointer (some ⟨S.c, 0, none⟩)]] 0 := new_self _
  have hq3 : vlt (((S.new (.row [Value.int .i64 c.hosts, .int .i64 c.cycle, .int .i64 c.delay, .int .i64 c.window, .int .i64 c.prec, .slice q.ad c.delays.length q.cd, .slice q.ae c.entries.length q.ce, .slice q.al c.links.length q.cl, .int .i64 c.queue] 0)).new (.row [.func (.func 54) #[] #[]] 0)).new (.row [.func (.func 55) #[] #[.pointer (some ⟨S.c, 0, none⟩)]] 0)).c (cvl c q) = true := vlt_mono (by simp only [new_c]; omega) hq
  have h3 := h.low lw
  have eR := anyN g3 (.func (.func 57) #[] #[.pointer (some ⟨S.c, 0, none⟩)]) (by rw [vlt_func]; simp; omega) c.entries h.le (badRoute c) h3.ent (fun e he => by
    rw [clo_57]
    exact rt_eq g3 c q hh hb hN e (h.et e he))
  have eT := anyN g3 (.func (.func 58) #[] #[.pointer (some ⟨S.c, 0, none⟩)]) (by rw [vlt_func]; simp; omega) c.entries h.le (badTime c) h3.ent (fun e he => by
    rw [clo_58]
    exact tt_eq g3 c q hq3 hs hb hN e (h.et e he))
  have eB := pairs_eq g3 c.entries h.le (both c) (.func (.func 62) #[] #[.pointer (some ⟨S.c + 1 + 1, 0, none⟩)]) (by rw [vlt_func]; simp) (by simp) (fun a ha b hb' U gU aU => by
    rw [clo_62]
    refine both_eq gU c q (vlt_mono aU.1 hq3) a b (h.et a ha) (h.et b hb') (bf := S.c + 1 + 1) (bc := S.c) ?_ (by omega) ?_ hN
    · rw [aU.2 _ (by simp only [new_c]; omega)]; exact hb2
    · rw [aU.2 _ (by simp only [new_c]; omega)]; exact hb) h3.ent (fun U => box_func _ _ _)
  unfold scheduleN
  by_cases h16 : 16 < c.entries.length
  · have h16' : (16 : Int) < (c.entries.length : Int) := by omega
    rw [if_pos h16]
    simp -implicitDefEqProofs (maxSteps := 1000000) (disch := (refine id ?_; first | ((first | fail); (first | (simp +arith only [new_c, new_lock, upd_c, upd_lock, relock_c, relock_lock]; done) | (refine Nat.le_trans hL ?_; simp +arith only [new_c, new_lock, upd_c, upd_lock, relock_c, relock_lock]; done) | fail)) | ((fail_if_success (with_reducible apply isT_of)); (fail_if_success (first | fail)); first | (simp +arith only [new_c, new_lock, upd_c, upd_lock, relock_c, relock_lock]; done) | (refine Nat.le_trans hL ?_; simp +arith only [new_c, new_lock, upd_c, upd_lock, relock_c, relock_lock]; done) | omega | (with_reducible apply Gd.cl; with_reducible assumption) | (simp only [flatR_int, flatR_bool, flatR_string, flatR_tuple, flatR_agg, flat_int, flat_bool, flat_string, flat_agg, flat0_int, flat0_bool, flat0_string, List.all_cons, List.all_nil, Bool.and_self, Bool.and_true, Bool.true_and]; done) | fail))) only [h16', ha, gcR_some, ↓bindV_some, ↓bindS_some, ↓bindT_some, ↓condB_true, ↓condB_false, bindV_some, bindS_some, bindT_some, ↓condK_B, bin_gtr, box_agg, cell_at, put_cons, cellOf_row, putOf_row, nth_zero, nth_succ, new_self, eq_self, new_upd, new_at, new_lo, new_c, storable_func, box_func, splice_nil, splice_cons, decide_true, decide_false, and_self, and_true, true_and, Nat.zero_add, List.length_cons, List.length_nil, List.set_cons_zero, List.all_cons, List.all_nil, Bool.and_true, Bool.true_and, Bool.and_self, Nat.reduceAdd, Nat.reduceSub, Nat.reduceMul, Nat.reduceLeDiff, Nat.reduceLT, Nat.reduceEqDiff, Int.reduceLE, Int.reduceLT, Int.reduceAdd, Int.reduceNeg, Int.reduceEq, Int.reduceSub, Int.reduceMul, Int.reduceToNat, ↓reduceIte, Nat.le_refl, decide_eq_true_eq, Bool.and_eq_true, Bool.or_eq_true, reduceCtorEq, call_56, call_59, clo_57, clo_58, clo_60, clo_62, ld_23, len_23, fa_26_6, st_70, al_70]
  · have h16' : ¬ (16 : Int) < (c.entries.length : Int) := by omega
    rw [if_neg h16]
    cases h5 : c.entries.any (badRoute c)
    · rw [h5] at eR
      cases h6 : c.entries.any (badTime c)
      · rw [h6] at eT
        have hph : ∀ e ∈ c.entries, -1152921504606846976 ≤ e.ph ∧ e.ph ≤ 1152921504606846976 := fun e he => by
          have := List.any_eq_false.1 h6 e he
          simp only [badTime, Bool.or_eq_true, decide_eq_true_eq, not_or] at this
          have hsp := hs
          simp only [Cfg.spans, inB, Bool.and_eq_true, decide_eq_true_eq] at hsp
          have : qv c = 2 * c.delay + c.window + 4 * c.prec := rfl
          omega
        have eS := pairs_eq g3 c.entries h.le same (.func (.func 60) #[] #[.pointer (some ⟨S.c + 1, 0, none⟩)]) (by rw [vlt_func]; simp) (by simp) (fun a ha b hb' U gU aU => by
          rw [clo_60]
          refine same_eq gU a b (bf := S.c + 1) ?_ (by omega) (hph a ha) (hph b hb')
          rw [aU.2 _ (by simp only [new_c]; omega)]; exact hb1) h3.ent (fun U => box_func _ _ _)
        cases h7 : pairsB same [] c.entries
        · rw [h7] at eS
          cases h8 : pairsB (both c) [] c.entries
          · rw [h8] at eB
            simp -implicitDefEqProofs (maxSteps := 1000000) (disch := (refine id ?_; first | ((first | fail); (first | (simp +arith only [new_c, new_lock, upd_c, upd_lock, relock_c, relock_lock]; done) | (refine Nat.le_trans hL ?_; simp +arith only [new_c, new_lock, upd_c, upd_lock, relock_c, relock_lock]; done) | fail)) | ((fail_if_success (with_reducible apply isT_of)); (fail_if_success (first | fail)); first | (simp +arith only [new_c, new_lock, upd_c, upd_lock, relock_c, relock_lock]; done) | (refine Nat.le_trans hL ?_; simp +arith only [new_c, new_lock, upd_c, upd_lock, relock_c, relock_lock]; done) | omega | (with_reducible apply Gd.cl; with_reducible assumption) | (simp only [flatR_int, flatR_bool, flatR_string, flatR_tuple, flatR_agg, flat_int, flat_bool, flat_string, flat_agg, flat0_int, flat0_bool, flat0_string, List.all_cons, List.all_nil, Bool.and_self, Bool.and_true, Bool.true_and]; done) | fail))) only [h16', eR, eT, eS, eB, ha, gcR_some, ↓bindV_some, ↓bindS_some, ↓bindT_some, ↓condB_true, ↓condB_false, bindV_some, bindS_some, bindT_some, ↓condK_B, bin_gtr, box_agg, cell_at, put_cons, cellOf_row, putOf_row, nth_zero, nth_succ, new_self, eq_self, new_upd, new_at, new_lo, new_c, storable_func, box_func, splice_nil, splice_cons, decide_true, decide_false, and_self, and_true, true_and, Nat.zero_add, List.length_cons, List.length_nil, List.set_cons_zero, List.all_cons, List.all_nil, Bool.and_true, Bool.true_and, Bool.and_self, Nat.reduceAdd, Nat.reduceSub, Nat.reduceMul, Nat.reduceLeDiff, Nat.reduceLT, Nat.reduceEqDiff, Int.reduceLE, Int.reduceLT, Int.reduceAdd, Int.reduceNeg, Int.reduceEq, Int.reduceSub, Int.reduceMul, Int.reduceToNat, ↓reduceIte, Nat.le_refl, decide_eq_true_eq, Bool.and_eq_true, Bool.or_eq_true, reduceCtorEq, call_56, call_59, clo_57, clo_58, clo_60, clo_62, ld_23, len_23, fa_26_6, st_70, al_70]
          · rw [h8] at eB
            simp -implicitDefEqProofs (maxSteps := 1000000) (disch := (refine id ?_; first | ((first | fail); (first | (simp +arith only [new_c, new_lock, upd_c, upd_lock, relock_c, relock_lock]; done) | (refine Nat.le_trans hL ?_; simp +arith only [new_c, new_lock, upd_c, upd_lock, relock_c, relock_lock]; done) | fail)) | ((fail_if_success (with_reducible apply isT_of)); (fail_if_success (first | fail)); first | (simp +arith only [new_c, new_lock, upd_c, upd_lock, relock_c, relock_lock]; done) | (refine Nat.le_trans hL ?_; simp +arith only [new_c, new_lock, upd_c, upd_lock, relock_c, relock_lock]; done) | omega | (with_reducible apply Gd.cl; with_reducible assumption) | (simp only [flatR_int, flatR_bool, flatR_string, flatR_tuple, flatR_agg, flat_int, flat_bool, flat_string, flat_agg, flat0_int, flat0_bool, flat0_string, List.all_cons, List.all_nil, Bool.and_self, Bool.and_true, Bool.true_and]; done) | fail))) only [h16', eR, eT, eS, eB, ha, gcR_some, ↓bindV_some, ↓bindS_some, ↓bindT_some, ↓condB_true, ↓condB_false, bindV_some, bindS_some, bindT_some, ↓condK_B, bin_gtr, box_agg, cell_at, put_cons, cellOf_row, putOf_row, nth_zero, nth_succ, new_self, eq_self, new_upd, new_at, new_lo, new_c, storable_func, box_func, splice_nil, splice_cons, decide_true, decide_false, and_self, and_true, true_and, Nat.zero_add, List.length_cons, List.length_nil, List.set_cons_zero, List.all_cons, List.all_nil, Bool.and_true, Bool.true_and, Bool.and_self, Nat.reduceAdd, Nat.reduceSub, Nat.reduceMul, Nat.reduceLeDiff, Nat.reduceLT, Nat.reduceEqDiff, Int.reduceLE, Int.reduceLT, Int.reduceAdd, Int.reduceNeg, Int.reduceEq, Int.reduceSub, Int.reduceMul, Int.reduceToNat, ↓reduceIte, Nat.le_refl, decide_eq_true_eq, Bool.and_eq_true, Bool.or_eq_true, reduceCtorEq, call_56, call_59, clo_57, clo_58, clo_60, clo_62, ld_23, len_23, fa_26_6, st_70, al_70]
        · rw [h7] at eS
          simp -implicitDefEqProofs (maxSteps := 1000000) (disch := (refine id ?_; first | ((first | fail); (first | (simp +arith only [new_c, new_lock, upd_c, upd_lock, relock_c, relock_lock]; done) | (refine Nat.le_trans hL ?_; simp +arith only [new_c, new_lock, upd_c, upd_lock, relock_c, relock_lock]; done) | fail)) | ((fail_if_success (with_reducible apply isT_of)); (fail_if_success (first | fail)); first | (simp +arith only [new_c, new_lock, upd_c, upd_lock, relock_c, relock_lock]; done) | (refine Nat.le_trans hL ?_; simp +arith only [new_c, new_lock, upd_c, upd_lock, relock_c, relock_lock]; done) | omega | (with_reducible apply Gd.cl; with_reducible assumption) | (simp only [flatR_int, flatR_bool, flatR_string, flatR_tuple, flatR_agg, flat_int, flat_bool, flat_string, flat_agg, flat0_int, flat0_bool, flat0_string, List.all_cons, List.all_nil, Bool.and_self, Bool.and_true, Bool.true_and]; done) | fail))) only [h16', eR, eT, eS, ha, gcR_some, ↓bindV_some, ↓bindS_some, ↓bindT_some, ↓condB_true, ↓condB_false, bindV_some, bindS_some, bindT_some, ↓condK_B, bin_gtr, box_agg, cell_at, put_cons, cellOf_row, putOf_row, nth_zero, nth_succ, new_self, eq_self, new_upd, new_at, new_lo, new_c, storable_func, box_func, splice_nil, splice_cons, decide_true, decide_false, and_self, and_true, true_and, Nat.zero_add, List.length_cons, List.length_nil, List.set_cons_zero, List.all_cons, List.all_nil, Bool.and_true, Bool.true_and, Bool.and_self, Nat.reduceAdd, Nat.reduceSub, Nat.reduceMul, Nat.reduceLeDiff, Nat.reduceLT, Nat.reduceEqDiff, Int.reduceLE, Int.reduceLT, Int.reduceAdd, Int.reduceNeg, Int.reduceEq, Int.reduceSub, Int.reduceMul, Int.reduceToNat, ↓reduceIte, Nat.le_refl, decide_eq_true_eq, Bool.and_eq_true, Bool.or_eq_true, reduceCtorEq, call_56, call_59, clo_57, clo_58, clo_60, clo_62, ld_23, len_23, fa_26_6, st_70, al_70]
      · rw [h6] at eT
        simp -implicitDefEqProofs (maxSteps := 1000000) (disch := (refine id ?_; first | ((first | fail); (first | (simp +arith only [new_c, new_lock, upd_c, upd_lock, relock_c, relock_lock]; done) | (refine Nat.le_trans hL ?_; simp +arith only [new_c, new_lock, upd_c, upd_lock, relock_c, relock_lock]; done) | fail)) | ((fail_if_success (with_reducible apply isT_of)); (fail_if_success (first | fail)); first | (simp +arith only [new_c, new_lock, upd_c, upd_lock, relock_c, relock_lock]; done) | (refine Nat.le_trans hL ?_; simp +arith only [new_c, new_lock, upd_c, upd_lock, relock_c, relock_lock]; done) | omega | (with_reducible apply Gd.cl; with_reducible assumption) | (simp only [flatR_int, flatR_bool, flatR_string, flatR_tuple, flatR_agg, flat_int, flat_bool, flat_string, flat_agg, flat0_int, flat0_bool, flat0_string, List.all_cons, List.all_nil, Bool.and_self, Bool.and_true, Bool.true_and]; done) | fail))) only [h16', eR, eT, ha, gcR_some, ↓bindV_some, ↓bindS_some, ↓bindT_some, ↓condB_true, ↓condB_false, bindV_some, bindS_some, bindT_some, ↓condK_B, bin_gtr, box_agg, cell_at, put_cons, cellOf_row, putOf_row, nth_zero, nth_succ, new_self, eq_self, new_upd, new_at, new_lo, new_c, storable_func, box_func, splice_nil, splice_cons, decide_true, decide_false, and_self, and_true, true_and, Nat.zero_add, List.length_cons, List.length_nil, List.set_cons_zero, List.all_cons, List.all_nil, Bool.and_true, Bool.true_and, Bool.and_self, Nat.reduceAdd, Nat.reduceSub, Nat.reduceMul, Nat.reduceLeDiff, Nat.reduceLT, Nat.reduceEqDiff, Int.reduceLE, Int.reduceLT, Int.reduceAdd, Int.reduceNeg, Int.reduceEq, Int.reduceSub, Int.reduceMul, Int.reduceToNat, ↓reduceIte, Nat.le_refl, decide_eq_true_eq, Bool.and_eq_true, Bool.or_eq_true, reduceCtorEq, call_56, call_59, clo_57, clo_58, clo_60, clo_62, ld_23, len_23, fa_26_6, st_70, al_70]
    · rw [h5] at eR
      simp -implicitDefEqProofs (maxSteps := 1000000) (disch := (refine id ?_; first | ((first | fail); (first | (simp +arith only [new_c, new_lock, upd_c, upd_lock, relock_c, relock_lock]; done) | (refine Nat.le_trans hL ?_; simp +arith only [new_c, new_lock, upd_c, upd_lock, relock_c, relock_lock]; done) | fail)) | ((fail_if_success (with_reducible apply isT_of)); (fail_if_success (first | fail)); first | (simp +arith only [new_c, new_lock, upd_c, upd_lock, relock_c, relock_lock]; done) | (refine Nat.le_trans hL ?_; simp +arith only [new_c, new_lock, upd_c, upd_lock, relock_c, relock_lock]; done) | omega | (with_reducible apply Gd.cl; with_reducible assumption) | (simp only [flatR_int, flatR_bool, flatR_string, flatR_tuple, flatR_agg, flat_int, flat_bool, flat_string, flat_agg, flat0_int, flat0_bool, flat0_string, List.all_cons, List.all_nil, Bool.and_self, Bool.and_true, Bool.true_and]; done) | fail))) only [h16', eR, ha, gcR_some, ↓bindV_some, ↓bindS_some, ↓bindT_some, ↓condB_true, ↓condB_false, bindV_some, bindS_some, bindT_some, ↓condK_B, bin_gtr, box_agg, cell_at, put_cons, cellOf_row, putOf_row, nth_zero, nth_succ, new_self, eq_self, new_upd, new_at, new_lo, new_c, storable_func, box_func, splice_nil, splice_cons, decide_true, decide_false, and_self, and_true, true_and, Nat.zero_add, List.length_cons, List.length_nil, List.set_cons_zero, List.all_cons, List.all_nil, Bool.and_true, Bool.true_and, Bool.and_self, Nat.reduceAdd, Nat.reduceSub, Nat.reduceMul, Nat.reduceLeDiff, Nat.reduceLT, Nat.reduceEqDiff, Int.reduceLE, Int.reduceLT, Int.reduceAdd, Int.reduceNeg, Int.reduceEq, Int.reduceSub, Int.reduceMul, Int.reduceToNat, ↓reduceIte, Nat.le_refl, decide_eq_true_eq, Bool.and_eq_true, Bool.or_eq_true, reduceCtorEq, call_56, call_59, clo_57, clo_58, clo_60, clo_62, ld_23, len_23, fa_26_6, st_70, al_70]
end
end Go.Proofs.Ytogcdgdnjinjkaa.F
end
section
namespace Go.Proofs.Ytogcdgdnjinjkaa.F
open Go Go.Proofs.Ytogcdgdnjinjkaa.E
set_option linter.unusedVariables false
set_option linter.unusedSimpArgs false
def checkN (c : Cfg) : Int := if inB c.hosts 1 6 = false then 1 else if inB c.cycle 1 1073741824 = false then 2 else if c.spans = false then 3 else if rowsOk c = false then 4 else if scheduleN c ≠ 0 then scheduleN c else
  if 16 < c.links.length then 9 else if c.links.any (badLink c) then 9 else if inB c.queue 1 64 = false then 10 else 0
section
variable {W : World} {S : St}
set_option maxHeartbeats 1000000 in
theorem Check_eq (g : Gd W S) (c : Cfg) (q : Pl) (h : CfgAt W S c q) : cw W 11 #[cvl c q] S = some (i64 (checkN c), S) := by
  rw [eq11]
  have hN := g.n; have hL : S.lock ≤ S.c := g.ok.1
  have hq := h.vlt
  have g1 := g.new (o := .row [Value.int .i64 c.hosts, .int .i64 c.cycle, .int .i64 c.delay, .int .i64 c.window, .int .i64 c.prec, .slice q.ad c.delays.length q.cd, .slice q.ae c.entries.length q.ce, .slice q.al c.links.length q.cl, .int .i64 c.queue] 0) (objLt_mono (Nat.le_succ _) (cvl_obj hq))
  have hq1 : vlt (S.c + 1) (cvl c q) = true := vlt_mono (by omega) hq
  have ha : [cvl c q].all (vlt S.c) = true := by rw [List.all_cons, hq]; rfl
  have lw : Low S (S.new (.row [Value.int .i64 c.hosts, .int .i64 c.cycle, .int .i64 c.delay, .int .i64 c.window, .int .i64 c.prec, .slice q.ad c.delays.length q.cd, .slice q.ae c.entries.length q.ce, .slice q.al c.links.length q.cl, .int .i64 c.queue] 0)) := Low.new (Low.rfl' S) _
  have hb : (S.new (.row [Value.int .i64 c.hosts, .int .i64 c.cycle, .int .i64 c.delay, .int .i64 c.window, .int .i64 c.prec, .slice q.ad c.delays.length q.cd, .slice q.ae c.entries.length q.ce, .slice q.al c.links.length q.cl, .int .i64 c.queue] 0)).heap S.c = .row (ccs c q) 0 := new_self _
  have h3 := h.low lw
  have eI := fun (U : St) (gU : Gd W U) (n lo hi : Int) => in_eq gU n lo hi
  have eS := spans_eq g1 c q hq1
  have eW := rows_eq g1 c q h3
  unfold checkN
  cases h1 : inB c.hosts 1 6
  · simp -implicitDefEqProofs (maxSteps := 1000000) (disch := (refine id ?_; first | ((first | fail); (first | (simp +arith only [new_c, new_lock, upd_c, upd_lock, relock_c, relock_lock]; done) | fail)) | ((fail_if_success (with_reducible apply isT_of)); (fail_if_success (first | fail)); first | (simp +arith only [new_c, new_lock, upd_c, upd_lock, relock_c, relock_lock]; done) | omega | (with_reducible apply Gd.cl; with_reducible assumption) | (simp only [flatR_int, flatR_bool, flatR_string, flatR_tuple, flatR_agg, flat_int, flat_bool, flat_string, flat_agg, flat0_int, flat0_bool, flat0_string, List.all_cons, List.all_nil, Bool.and_self, Bool.and_true, Bool.true_and]; done) | fail))) only [eI, h1, ha, gcR_some, ↓bindV_some, ↓bindS_some, ↓condB_true, ↓condB_false, bindV_some, bindS_some, ↓condK_B, bin_gtr, bin_neq, un_not, box_agg, cell_at, cells_at, cellOf_row, cellsOf_row, nth_zero, nth_succ, aggOf_some, new_self, eq_self, new_at, decide_true, decide_false, and_self, Bool.not_true, Bool.not_false, Nat.zero_add, List.length_cons, List.length_nil, List.drop_zero, List.take_succ_cons, List.take_zero, List.all_cons, Bool.and_self, not_false_eq_true, Nat.reduceAdd, Nat.reduceSub, Nat.reduceMul, Nat.reduceLeDiff, Nat.reduceLT, Nat.reduceEqDiff, Int.reduceLE, Int.reduceLT, Int.reduceAdd, Int.reduceNeg, Int.reduceEq, Int.reduceSub, Int.reduceMul, Int.reduceToNat, ↓reduceIte, Nat.le_refl, decide_eq_true_eq, Bool.not_eq_true', Bool.and_eq_true, reduceCtorEq, call_28, call_29, call_30, call_31, call_32, clo_33, ld_2, ld_3, ld_24, len_24, fa_26_0, fa_26_1, fa_26_7, fa_26_8, ld_26]
  · have hh : 1 ≤ c.hosts ∧ c.hosts ≤ 6 := by simpa [inB] using h1
    rw [if_neg (by simp)]
    cases h2 : inB c.cycle 1 1073741824
    · simp -implicitDefEqProofs (maxSteps := 1000000) (disch := (refine id ?_; first | ((first | fail); (first | (simp +arith only [new_c, new_lock, upd_c, upd_lock, relock_c, relock_lock]; done) | fail)) | ((fail_if_success (with_reducible apply isT_of)); (fail_if_success (first | fail)); first | (simp +arith only [new_c, new_lock, upd_c, upd_lock, relock_c, relock_lock]; done) | omega | (with_reducible apply Gd.cl; with_reducible assumption) | (simp only [flatR_int, flatR_bool, flatR_string, flatR_tuple, flatR_agg, flat_int, flat_bool, flat_string, flat_agg, flat0_int, flat0_bool, flat0_string, List.all_cons, List.all_nil, Bool.and_self, Bool.and_true, Bool.true_and]; done) | fail))) only [eI, h1, h2, ha, gcR_some, ↓bindV_some, ↓bindS_some, ↓condB_true, ↓condB_false, bindV_some, bindS_some, ↓condK_B, bin_gtr, bin_neq, un_not, box_agg, cell_at, cells_at, cellOf_row, cellsOf_row, nth_zero, nth_succ, aggOf_some, new_self, eq_self, new_at, decide_true, decide_false, and_self, Bool.not_true, Bool.not_false, Nat.zero_add, List.length_cons, List.length_nil, List.drop_zero, List.take_succ_cons, List.take_zero, List.all_cons, Bool.and_self, not_false_eq_true, Nat.reduceAdd, Nat.reduceSub, Nat.reduceMul, Nat.reduceLeDiff, Nat.reduceLT, Nat.reduceEqDiff, Int.reduceLE, Int.reduceLT, Int.reduceAdd, Int.reduceNeg, Int.reduceEq, Int.reduceSub, Int.reduceMul, Int.reduceToNat, ↓reduceIte, Nat.le_refl, decide_eq_true_eq, Bool.not_eq_true', Bool.and_eq_true, reduceCtorEq, call_28, call_29, call_30, call_31, call_32, clo_33, ld_2, ld_3, ld_24, len_24, fa_26_0, fa_26_1, fa_26_7, fa_26_8, ld_26]
    · have hcy : c.cycle ≤ 1073741824 := by have : 1 ≤ c.cycle ∧ c.cycle ≤ 1073741824 := by simpa [inB] using h2
                                            omega
      rw [if_neg (by simp)]
      cases hs : c.spans
      · rw [hs] at eS
        simp -implicitDefEqProofs (maxSteps := 1000000) (disch := (refine id ?_; first | ((first | fail); (first | (simp +arith only [new_c, new_lock, upd_c, upd_lock, relock_c, relock_lock]; done) | fail)) | ((fail_if_success (with_reducible apply isT_of)); (fail_if_success (first | fail)); first | (simp +arith only [new_c, new_lock, upd_c, upd_lock, relock_c, relock_lock]; done) | omega | (with_reducible apply Gd.cl; with_reducible assumption) | (simp only [flatR_int, flatR_bool, flatR_string, flatR_tuple, flatR_agg, flat_int, flat_bool, flat_string, flat_agg, flat0_int, flat0_bool, flat0_string, List.all_cons, List.all_nil, Bool.and_self, Bool.and_true, Bool.true_and]; done) | fail))) only [eI, eS, h1, h2, ha, gcR_some, ↓bindV_some, ↓bindS_some, ↓condB_true, ↓condB_false, bindV_some, bindS_some, ↓condK_B, bin_gtr, bin_neq, un_not, box_agg, cell_at, cells_at, cellOf_row, cellsOf_row, nth_zero, nth_succ, aggOf_some, new_self, eq_self, new_at, decide_true, decide_false, and_self, Bool.not_true, Bool.not_false, Nat.zero_add, List.length_cons, List.length_nil, List.drop_zero, List.take_succ_cons, List.take_zero, List.all_cons, Bool.and_self, not_false_eq_true, Nat.reduceAdd, Nat.reduceSub, Nat.reduceMul, Nat.reduceLeDiff, Nat.reduceLT, Nat.reduceEqDiff, Int.reduceLE, Int.reduceLT, Int.reduceAdd, Int.reduceNeg, Int.reduceEq, Int.reduceSub, Int.reduceMul, Int.reduceToNat, ↓reduceIte, Nat.le_refl, decide_eq_true_eq, Bool.not_eq_true', Bool.and_eq_true, reduceCtorEq, call_28, call_29, call_30, call_31, call_32, clo_33, ld_2, ld_3, ld_24, len_24, fa_26_0, fa_26_1, fa_26_7, fa_26_8, ld_26]
      · rw [hs] at eS
        rw [if_neg (by simp)]
        cases hr : rowsOk c
        · rw [hr] at eW
          simp -implicitDefEqProofs (maxSteps := 1000000) (disch := (refine id ?_; first | ((first | fail); (first | (simp +arith only [new_c, new_lock, upd_c, upd_lock, relock_c, relock_lock]; done) | fail)) | ((fail_if_success (with_reducible apply isT_of)); (fail_if_success (first | fail)); first | (simp +arith only [new_c, new_lock, upd_c, upd_lock, relock_c, relock_lock]; done) | omega | (with_reducible apply Gd.cl; with_reducible assumption) | (simp only [flatR_int, flatR_bool, flatR_string, flatR_tuple, flatR_agg, flat_int, flat_bool, flat_string, flat_agg, flat0_int, flat0_bool, flat0_string, List.all_cons, List.all_nil, Bool.and_self, Bool.and_true, Bool.true_and]; done) | fail))) only [eI, eS, eW, h1, h2, ha, gcR_some, ↓bindV_some, ↓bindS_some, ↓condB_true, ↓condB_false, bindV_some, bindS_some, ↓condK_B, bin_gtr, bin_neq, un_not, box_agg, cell_at, cells_at, cellOf_row, cellsOf_row, nth_zero, nth_succ, aggOf_some, new_self, eq_self, new_at, decide_true, decide_false, and_self, Bool.not_true, Bool.not_false, Nat.zero_add, List.length_cons, List.length_nil, List.drop_zero, List.take_succ_cons, List.take_zero, List.all_cons, Bool.and_self, not_false_eq_true, Nat.reduceAdd, Nat.reduceSub, Nat.reduceMul, Nat.reduceLeDiff, Nat.reduceLT, Nat.reduceEqDiff, Int.reduceLE, Int.reduceLT, Int.reduceAdd, Int.reduceNeg, Int.reduceEq, Int.reduceSub, Int.reduceMul, Int.reduceToNat, ↓reduceIte, Nat.le_refl, decide_eq_true_eq, Bool.not_eq_true', Bool.and_eq_true, reduceCtorEq, call_28, call_29, call_30, call_31, call_32, clo_33, ld_2, ld_3, ld_24, len_24, fa_26_0, fa_26_1, fa_26_7, fa_26_8, ld_26]
        · rw [hr] at eW
          rw [if_neg (by simp)]
          have eC := schedule_eq g1 c q h3 hh hs hcy
          by_cases hz : scheduleN c = 0
          · rw [if_neg (by simpa using hz)]
            rw [hz] at eC
            by_cases h16 : 16 < c.links.length
            · have h16' : (16 : Int) < (c.links.length : Int) := by omega
              rw [if_pos h16]
              simp -implicitDefEqProofs (maxSteps := 1000000) (disch := (refine id ?_; first | ((first | fail); (first | (simp +arith only [new_c, new_lock, upd_c, upd_lock, relock_c, relock_lock]; done) | fail)) | ((fail_if_success (with_reducible apply isT_of)); (fail_if_success (first | fail)); first | (simp +arith only [new_c, new_lock, upd_c, upd_lock, relock_c, relock_lock]; done) | omega | (with_reducible apply Gd.cl; with_reducible assumption) | (simp only [flatR_int, flatR_bool, flatR_string, flatR_tuple, flatR_agg, flat_int, flat_bool, flat_string, flat_agg, flat0_int, flat0_bool, flat0_string, List.all_cons, List.all_nil, Bool.and_self, Bool.and_true, Bool.true_and]; done) | fail))) only [eI, eS, eW, eC, h16', h1, h2, ha, gcR_some, ↓bindV_some, ↓bindS_some, ↓condB_true, ↓condB_false, bindV_some, bindS_some, ↓condK_B, bin_gtr, bin_neq, un_not, box_agg, cell_at, cells_at, cellOf_row, cellsOf_row, nth_zero, nth_succ, aggOf_some, new_self, eq_self, new_at, decide_true, decide_false, and_self, Bool.not_true, Bool.not_false, Nat.zero_add, List.length_cons, List.length_nil, List.drop_zero, List.take_succ_cons, List.take_zero, List.all_cons, Bool.and_self, not_false_eq_true, Nat.reduceAdd, Nat.reduceSub, Nat.reduceMul, Nat.reduceLeDiff, Nat.reduceLT, Nat.reduceEqDiff, Int.reduceLE, Int.reduceLT, Int.reduceAdd, Int.reduceNeg, Int.reduceEq, Int.reduceSub, Int.reduceMul, Int.reduceToNat, ↓reduceIte, Nat.le_refl, decide_eq_true_eq, Bool.not_eq_true', Bool.and_eq_true, reduceCtorEq, call_28, call_29, call_30, call_31, call_32, clo_33, ld_2, ld_3, ld_24, len_24, fa_26_0, fa_26_1, fa_26_7, fa_26_8, ld_26]
            · have h16' : ¬ (16 : Int) < (c.links.length : Int) := by omega
              rw [if_neg h16]
              have eL := anyK g1 (.func (.func 33) #[] #[.pointer (some ⟨S.c, 0, none⟩)]) (by rw [vlt_func]; simp) c.links h.ll (badLink c) h3.lnk (fun e he => by
                rw [clo_33]
                exact ln_eq g1 c q hh hb hN e (h.lt e he))
              cases h9 : c.links.any (badLink c)
              · rw [h9] at eL
                cases h10 : inB c.queue 1 64
                · simp -implicitDefEqProofs (maxSteps := 1000000) (disch := (refine id ?_; first | ((first | fail); (first | (simp +arith only [new_c, new_lock, upd_c, upd_lock, relock_c, relock_lock]; done) | fail)) | ((fail_if_success (with_reducible apply isT_of)); (fail_if_success (first | fail)); first | (simp +arith only [new_c, new_lock, upd_c, upd_lock, relock_c, relock_lock]; done) | omega | (with_reducible apply Gd.cl; with_reducible assumption) | (simp only [flatR_int, flatR_bool, flatR_string, flatR_tuple, flatR_agg, flat_int, flat_bool, flat_string, flat_agg, flat0_int, flat0_bool, flat0_string, List.all_cons, List.all_nil, Bool.and_self, Bool.and_true, Bool.true_and]; done) | fail))) only [eI, eS, eW, eC, eL, h16', h1, h2, h10, ha, gcR_some, ↓bindV_some, ↓bindS_some, ↓condB_true, ↓condB_false, bindV_some, bindS_some, ↓condK_B, bin_gtr, bin_neq, un_not, box_agg, cell_at, cells_at, cellOf_row, cellsOf_row, nth_zero, nth_succ, aggOf_some, new_self, eq_self, new_at, decide_true, decide_false, and_self, Bool.not_true, Bool.not_false, Nat.zero_add, List.length_cons, List.length_nil, List.drop_zero, List.take_succ_cons, List.take_zero, List.all_cons, Bool.and_self, not_false_eq_true, Nat.reduceAdd, Nat.reduceSub, Nat.reduceMul, Nat.reduceLeDiff, Nat.reduceLT, Nat.reduceEqDiff, Int.reduceLE, Int.reduceLT, Int.reduceAdd, Int.reduceNeg, Int.reduceEq, Int.reduceSub, Int.reduceMul, Int.reduceToNat, ↓reduceIte, Nat.le_refl, decide_eq_true_eq, Bool.not_eq_true', Bool.and_eq_true, reduceCtorEq, call_28, call_29, call_30, call_31, call_32, clo_33, ld_2, ld_3, ld_24, len_24, fa_26_0, fa_26_1, fa_26_7, fa_26_8, ld_26]
                · simp -implicitDefEqProofs (maxSteps := 1000000) (disch := (refine id ?_; first | ((first | fail); (first | (simp +arith only [new_c, new_lock, upd_c, upd_lock, relock_c, relock_lock]; done) | fail)) | ((fail_if_success (with_reducible apply isT_of)); (fail_if_success (first | fail)); first | (simp +arith only [new_c, new_lock, upd_c, upd_lock, relock_c, relock_lock]; done) | omega | (with_reducible apply Gd.cl; with_reducible assumption) | (simp only [flatR_int, flatR_bool, flatR_string, flatR_tuple, flatR_agg, flat_int, flat_bool, flat_string, flat_agg, flat0_int, flat0_bool, flat0_string, List.all_cons, List.all_nil, Bool.and_self, Bool.and_true, Bool.true_and]; done) | fail))) only [eI, eS, eW, eC, eL, h16', h1, h2, h10, ha, gcR_some, ↓bindV_some, ↓bindS_some, ↓condB_true, ↓condB_false, bindV_some, bindS_some, ↓condK_B, bin_gtr, bin_neq, un_not, box_agg, cell_at, cells_at, cellOf_row, cellsOf_row, nth_zero, nth_succ, aggOf_some, new_self, eq_self, new_at, decide_true, decide_false, and_self, Bool.not_true, Bool.not_false, Nat.zero_add, List.length_cons, List.length_nil, List.drop_zero, List.take_succ_cons, List.take_zero, List.all_cons, Bool.and_self, not_false_eq_true, Nat.reduceAdd, Nat.reduceSub, Nat.reduceMul, Nat.reduceLeDiff, Nat.reduceLT, Nat.reduceEqDiff, Int.reduceLE, Int.reduceLT, Int.reduceAdd, Int.reduceNeg, Int.reduceEq, Int.reduceSub, Int.reduceMul, Int.reduceToNat, ↓reduceIte, Nat.le_refl, decide_eq_true_eq, Bool.not_eq_true', Bool.and_eq_true, reduceCtorEq, call_28, call_29, call_30, call_31, call_32, clo_33, ld_2, ld_3, ld_24, len_24, fa_26_0, fa_26_1, fa_26_7, fa_26_8, ld_26]
              · rw [h9] at eL
                simp -implicitDefEqProofs (maxSteps := 1000000) (disch := (refine id ?_; first | ((first | fail); (first | (simp +arith only [new_c, new_lock, upd_c, upd_lock, relock_c, relock_lock]; done) | fail)) | ((fail_if_success (with_reducible apply isT_of)); (fail_if_success (first | fail)); first | (simp +arith only [new_c, new_lock, upd_c, upd_lock, relock_c, relock_lock]; done) | omega | (with_reducible apply Gd.cl; with_reducible assumption) | (simp only [flatR_int, flatR_bool, flatR_string, flatR_tuple, flatR_agg, flat_int, flat_bool, flat_string, flat_agg, flat0_int, flat0_bool, flat0_string, List.all_cons, List.all_nil, Bool.and_self, Bool.and_true, Bool.true_and]; done) | fail))) only [eI, eS, eW, eC, eL, h16', h1, h2, ha, gcR_some, ↓bindV_some, ↓bindS_some, ↓condB_true, ↓condB_false, bindV_some, bindS_some, ↓condK_B, bin_gtr, bin_neq, un_not, box_agg, cell_at, cells_at, cellOf_row, cellsOf_row, nth_zero, nth_succ, aggOf_some, new_self, eq_self, new_at, decide_true, decide_false, and_self, Bool.not_true, Bool.not_false, Nat.zero_add, List.length_cons, List.length_nil, List.drop_zero, List.take_succ_cons, List.take_zero, List.all_cons, Bool.and_self, not_false_eq_true, Nat.reduceAdd, Nat.reduceSub, Nat.reduceMul, Nat.reduceLeDiff, Nat.reduceLT, Nat.reduceEqDiff, Int.reduceLE, Int.reduceLT, Int.reduceAdd, Int.reduceNeg, Int.reduceEq, Int.reduceSub, Int.reduceMul, Int.reduceToNat, ↓reduceIte, Nat.le_refl, decide_eq_true_eq, Bool.not_eq_true', Bool.and_eq_true, reduceCtorEq, call_28, call_29, call_30, call_31, call_32, clo_33, ld_2, ld_3, ld_24, len_24, fa_26_0, fa_26_1, fa_26_7, fa_26_8, ld_26]
          · rw [if_pos hz]
            simp -implicitDefEqProofs (maxSteps := 1000000) (disch := (refine id ?_; first | ((first | fail); (first | (simp +arith only [new_c, new_lock, upd_c, upd_lock, relock_c, relock_lock]; done) | fail)) | ((fail_if_success (with_reducible apply isT_of)); (fail_if_success (first | fail)); first | (simp +arith only [new_c, new_lock, upd_c, upd_lock, relock_c, relock_lock]; done) | omega | (with_reducible apply Gd.cl; with_reducible assumption) | (simp only [flatR_int, flatR_bool, flatR_string, flatR_tuple, flatR_agg, flat_int, flat_bool, flat_string, flat_agg, flat0_int, flat0_bool, flat0_string, List.all_cons, List.all_nil, Bool.and_self, Bool.and_true, Bool.true_and]; done) | fail))) only [eI, eS, eW, eC, hz, h1, h2, ha, gcR_some, ↓bindV_some, ↓bindS_some, ↓condB_true, ↓condB_false, bindV_some, bindS_some, ↓condK_B, bin_gtr, bin_neq, un_not, box_agg, cell_at, cells_at, cellOf_row, cellsOf_row, nth_zero, nth_succ, aggOf_some, new_self, eq_self, new_at, decide_true, decide_false, and_self, Bool.not_true, Bool.not_false, Nat.zero_add, List.length_cons, List.length_nil, List.drop_zero, List.take_succ_cons, List.take_zero, List.all_cons, Bool.and_self, not_false_eq_true, Nat.reduceAdd, Nat.reduceSub, Nat.reduceMul, Nat.reduceLeDiff, Nat.reduceLT, Nat.reduceEqDiff, Int.reduceLE, Int.reduceLT, Int.reduceAdd, Int.reduceNeg, Int.reduceEq, Int.reduceSub, Int.reduceMul, Int.reduceToNat, ↓reduceIte, Nat.le_refl, decide_eq_true_eq, Bool.not_eq_true', Bool.and_eq_true, reduceCtorEq, call_28, call_29, call_30, call_31, call_32, clo_33, ld_2, ld_3, ld_24, len_24, fa_26_0, fa_26_1, fa_26_7, fa_26_8, ld_26]
end
end Go.Proofs.Ytogcdgdnjinjkaa.F
end
section
namespace Go.Proofs.Ytogcdgdnjinjkaa.F
open Go Go.Proofs.Ytogcdgdnjinjkaa.E
set_option linter.unusedVariables false
set_option linter.unusedSimpArgs false
section
theorem m2_0 : aBin p .mul 30 (.int .u32 ((2 ^ 0 : Nat) : Int)) (.int .u32 2) = some (.int .u32 ((2 ^ (0 + 1) : Nat) : Int)) := by kernel_rfl
theorem m2_1 : aBin p .mul 30 (.int .u32 ((2 ^ 1 : Nat) : Int)) (.int .u32 2) = some (.int .u32 ((2 ^ (1 + 1) : Nat) : Int)) := by kernel_rfl
theorem m2_2 : aBin p .mul 30 (.int .u32 ((2 ^ 2 : Nat) : Int)) (.int .u32 2) = some (.int .u32 ((2 ^ (2 + 1) : Nat) : Int)) := by kernel_rfl
theorem m2_3 : aBin p .mul 30 (.int .u32 ((2 ^ 3 : Nat) : Int)) (.int .u32 2) = some (.int .u32 ((2 ^ (3 + 1) : Nat) : Int)) := by kernel_rfl
theorem m2_4 : aBin p .mul 30 (.int .u32 ((2 ^ 4 : Nat) : Int)) (.int .u32 2) = some (.int .u32 ((2 ^ (4 + 1) : Nat) : Int)) := by kernel_rfl
theorem m2_5 : aBin p .mul 30 (.int .u32 ((2 ^ 5 : Nat) : Int)) (.int .u32 2) = some (.int .u32 ((2 ^ (5 + 1) : Nat) : Int)) := by kernel_rfl
variable {W : World} {S : St}
set_option maxRecDepth 100000 in
theorem rroute_loop (g : Gd W S) (h : Nat) (hh : 1 ≤ h ∧ h ≤ 6) (f : Int) (t : Nat) (ht : t < 4294967296) (y3 y4 y5 y6 y7 y8 y11 y12 y13 y14 y15 y16 y17 y18 y19 y20 y21 y22 y23 y24 y25 y26 y27 y28 y29 y37 y38 y39 y40 y41 y42 y43 y44 y45 : Value) : ∀ (n j : Nat) (hn : n + j = h),
    bindO (l38_111010 W (i64 (h : Int)) (i64 f) (u32 t) y3 y4 y5 y6 y7 y8 (.int .u32 ((2 ^ j : Nat) : Int)) (.int .i64 (j : Int)) y11 y12 y13 y14 y15 y16 y17 y18 y19 y20 y21 y22 y23 y24 y25 y26 y27 y28 y29 y37 y38 y39 y40 y41 y42 y43 y44 y45 S) (kc W c38 [1, 1, 1, 0, 1, 0] f38) = some (.bool (decide (t < 2 ^ h) && !has t f), S)
  | 0, j, hn => by
    have hj : j = h := by omega
    subst hj
    have hx : ¬ ((j : Int) < (j : Int)) := by omega
    have eh := rhas_eq g t ht f
    have hN := g.n; have hL : S.lock ≤ S.c := g.ok.1
    rw [r38_111010]
    by_cases hl : t < 2 ^ j
    · have hl' : ((t : Int) < ((2 ^ j : Nat) : Int)) = True := eq_true (by exact_mod_cast hl)
      rw [decide_eq_true hl]
      simp -implicitDefEqProofs (maxSteps := 1000000) (disch := (refine id ?_; first | with_reducible assumption )) only [hx, hl', eh, k38_111010_0, ↓bindV_some, ↓bindS_some, ↓bindT_some, ↓bindO_some, ↓condK_true, ↓condK_false, ↓condB_true, ↓condB_false, ↓gV_tt, ↓gV_tf, ↓gV_ft, ↓gV_ff, ↓gV_undef, wV_true, wV_false, ↓wO_true, ↓wO_false, ↓wS_true, ↓wS_false, ↓wT_true, ↓wT_false, bindV_some, bindS_some, bindT_some, bindO_some, condK_true, condK_false, ↓gV_t, ↓gV_f, gV_wt, gV_wf, wV_wV, wV_and, wrap64, wrapu32, wrapu8, wrapu64, ↓condK_B, wO_true, wO_false, wS_true, wS_false, wT_true, wT_false, wV_pos, wO_val, wS_val, pick_and, pick_or, pick_bool, pick_int, gcR_B, bindO_B, bin_add, bin_sub, bin_mul, bin_lss, bin_leq, bin_gtr, bin_geq, bin_eql, bin_neq, bin_and, bin_or, bin_xor, bin_andNot, un_not, un_neg, un_compl32, pick_true, pick_false, bin_str_eql, bin_str_neq, ex_nth, nil_ptr, nil_func, box_agg, box_int, box_bool, box_string, box_slice, box_pointer, cell_at, cells_at, put_cons, cellOf_row, cellsOf_row, putOf_row, nth_zero, nth_succ, aggOf_some, new_self, pos1, cast0, cast1, eq_self, new_upd, new_at, new_lo, upd_lo, new_c, new_lock, upd_self, upd_c, upd_lock, relock_heap, relock_c, relock_lock, relock_new, bindO_bindS, bindO_bindO, pick_or2, or_false, false_or, or_true, true_or, or_self, relock2, relock_id, storable_func, box_func, bne_ff, bne_tt, bne_tf, bne_ft, beq_tt, beq_ff, qS_true, unlock_some, splice_nil, splice_cons, decide_true, decide_false, beq_self_eq_true, and_self, and_true, true_and, and_false, false_and, if_true, if_false, Bool.not_true, Bool.not_false, Nat.zero_add, Nat.add_zero, List.length_cons, List.length_nil, List.drop_zero, List.drop_succ_cons, List.take_succ_cons, List.take_zero, List.set_cons_zero, List.set_cons_succ, List.all_cons, List.all_nil, storable_int, storable_bool, storable_string, storable_pointer, storable_slice, Bool.and_true, Bool.true_and, Bool.and_self, bff, bft, not_true_eq_false, not_false_eq_true, Nat.reduceAdd, Nat.reduceSub, Nat.reduceMul, Nat.reduceLeDiff, Nat.reduceLT, Nat.reduceEqDiff, Int.reduceLE, Int.reduceLT, Int.reduceAdd, Int.reduceNeg, Int.reduceEq, Int.reduceSub, Int.reduceMul, Int.reduceToNat, Int.toNat_natCast, Int.toNat_zero, Nat.zero_mul, Nat.mul_one, Bool.or_false, Bool.false_or, Bool.false_and, Bool.and_false, Bool.or_true, Bool.true_or, ↓reduceIte, Nat.le_refl, Option.isNone_some, Option.isNone_none, decide_eq_true_eq, Bool.not_eq_true', Bool.and_eq_true, Bool.or_eq_true, decide_eq_false_iff_not, Bool.not_not, reduceCtorEq, call_10, call_11, call_12, call_13, call_14, call_15, call_16, call_17, call_18, call_19, call_20, call_21, call_22, call_23, call_24, call_25, call_26, call_27, call_28, call_29, call_30, call_31, call_32, call_34, call_35, call_36, call_37, call_38, call_39, call_40, call_41, call_42, call_43, call_44, call_45, call_46, call_47, call_48, call_49, call_50, call_52, call_54, call_56, call_59, call_61, call_63, call_64, call_65, call_66, call_67, call_68, call_69, call_70, clo_33, clo_51, clo_53, clo_55, clo_57, clo_58, clo_60, clo_62, clo_71, ld_2, st_2, ld_3, st_3, ld_4, st_4, beql_4, bneq_4, ld_5, st_5, ld_22, st_22, len_22, ix_22, bsl_22, ld_23, st_23, len_23, ix_23, bsl_23, ld_24, st_24, len_24, ix_24, bsl_24, fa_26_0, fa_26_1, fa_26_2, fa_26_3, fa_26_4, fa_26_5, fa_26_6, fa_26_7, fa_26_8, ld_26, st_26, ld_30, st_30, fa_32_0, fa_32_1, fa_32_2, fa_32_3, ld_32, st_32, bseql_32, bsneq_32, ld_33, st_33, ixa_33, ld_45, st_45, len_45, ix_45, bsl_45, fa_47_0, fa_47_1, fa_47_2, fa_47_3, ld_47, st_47, bseql_47, bsneq_47, ld_48, st_48, ixa_48, ld_56, st_56, ld_57, st_57, len_57, ix_57, bsl_57, ld_70, st_70, ld_75, st_75, al_26, al_32, al_33, al_47, al_70, bu_26_0_1_2_3_4_8, bu_32_0_1_2_3, bu_33_0_1_2_3_4, bs_22_1_0, bs_23_0_, bs_23_1_0, bs_24_0_, bs_24_1_0, bs_45_0_, bs_45_1_0, bs_45_2_0_1, bs_57_1_0, ixv_33_i64_2, ixv_33_i64_4, cv_3_56, cv_5_3]
    · have hl' : ((t : Int) < ((2 ^ j : Nat) : Int)) = False := eq_false (by intro hc; exact hl (by exact_mod_cast hc))
      rw [decide_eq_false hl]
      simp -implicitDefEqProofs (maxSteps := 1000000) (disch := (refine id ?_; first | with_reducible assumption )) only [hx, hl', eh, k38_111010_0, ↓bindV_some, ↓bindS_some, ↓bindT_some, ↓bindO_some, ↓condK_true, ↓condK_false, ↓condB_true, ↓condB_false, ↓gV_tt, ↓gV_tf, ↓gV_ft, ↓gV_ff, ↓gV_undef, wV_true, wV_false, ↓wO_true, ↓wO_false, ↓wS_true, ↓wS_false, ↓wT_true, ↓wT_false, bindV_some, bindS_some, bindT_some, bindO_some, condK_true, condK_false, ↓gV_t, ↓gV_f, gV_wt, gV_wf, wV_wV, wV_and, wrap64, wrapu32, wrapu8, wrapu64, ↓condK_B, wO_true, wO_false, wS_true, wS_false, wT_true, wT_false, wV_pos, wO_val, wS_val, pick_and, pick_or, pick_bool, pick_int, gcR_B, bindO_B, bin_add, bin_sub, bin_mul, bin_lss, bin_leq, bin_gtr, bin_geq, bin_eql, bin_neq, bin_and, bin_or, bin_xor, bin_andNot, un_not, un_neg, un_compl32, pick_true, pick_false, bin_str_eql, bin_str_neq, ex_nth, nil_ptr, nil_func, box_agg, box_int, box_bool, box_string, box_slice, box_pointer, cell_at, cells_at, put_cons, cellOf_row, cellsOf_row, putOf_row, nth_zero, nth_succ, aggOf_some, new_self, pos1, cast0, cast1, eq_self, new_upd, new_at, new_lo, upd_lo, new_c, new_lock, upd_self, upd_c, upd_lock, relock_heap, relock_c, relock_lock, relock_new, bindO_bindS, bindO_bindO, pick_or2, or_false, false_or, or_true, true_or, or_self, relock2, relock_id, storable_func, box_func, bne_ff, bne_tt, bne_tf, bne_ft, beq_tt, beq_ff, qS_true, unlock_some, splice_nil, splice_cons, decide_true, decide_false, beq_self_eq_true, and_self, and_true, true_and, and_false, false_and, if_true, if_false, Bool.not_true, Bool.not_false, Nat.zero_add, Nat.add_zero, List.length_cons, List.length_nil, List.drop_zero, List.drop_succ_cons, List.take_succ_cons, List.take_zero, List.set_cons_zero, List.set_cons_succ, List.all_cons, List.all_nil, storable_int, storable_bool, storable_string, storable_pointer, storable_slice, Bool.and_true, Bool.true_and, Bool.and_self, bff, bft, not_true_eq_false, not_false_eq_true, Nat.reduceAdd, Nat.reduceSub, Nat.reduceMul, Nat.reduceLeDiff, Nat.reduceLT, Nat.reduceEqDiff, Int.reduceLE, Int.reduceLT, Int.reduceAdd, Int.reduceNeg, Int.reduceEq, Int.reduceSub, Int.reduceMul, Int.reduceToNat, Int.toNat_natCast, Int.toNat_zero, Nat.zero_mul, Nat.mul_one, Bool.or_false, Bool.false_or, Bool.false_and, Bool.and_false, Bool.or_true, Bool.true_or, ↓reduceIte, Nat.le_refl, Option.isNone_some, Option.isNone_none, decide_eq_true_eq, Bool.not_eq_true', Bool.and_eq_true, Bool.or_eq_true, decide_eq_false_iff_not, Bool.not_not, reduceCtorEq, call_10, call_11, call_12, call_13, call_14, call_15, call_16, call_17, call_18, call_19, call_20, call_21, call_22, call_23, call_24, call_25, call_26, call_27, call_28, call_29, call_30, call_31, call_32, call_34, call_35, call_36, call_37, call_38, call_39, call_40, call_41, call_42, call_43, call_44, call_45, call_46, call_47, call_48, call_49, call_50, call_52, call_54, call_56, call_59, call_61, call_63, call_64, call_65, call_66, call_67, call_68, call_69, call_70, clo_33, clo_51, clo_53, clo_55, clo_57, clo_58, clo_60, clo_62, clo_71, ld_2, st_2, ld_3, st_3, ld_4, st_4, beql_4, bneq_4, ld_5, st_5, ld_22, st_22, len_22, ix_22, bsl_22, ld_23, st_23, len_23, ix_23, bsl_23, ld_24, st_24, len_24, ix_24, bsl_24, fa_26_0, fa_26_1, fa_26_2, fa_26_3, fa_26_4, fa_26_5, fa_26_6, fa_26_7, fa_26_8, ld_26, st_26, ld_30, st_30, fa_32_0, fa_32_1, fa_32_2, fa_32_3, ld_32, st_32, bseql_32, bsneq_32, ld_33, st_33, ixa_33, ld_45, st_45, len_45, ix_45, bsl_45, fa_47_0, fa_47_1, fa_47_2, fa_47_3, ld_47, st_47, bseql_47, bsneq_47, ld_48, st_48, ixa_48, ld_56, st_56, ld_57, st_57, len_57, ix_57, bsl_57, ld_70, st_70, ld_75, st_75, al_26, al_32, al_33, al_47, al_70, bu_26_0_1_2_3_4_8, bu_32_0_1_2_3, bu_33_0_1_2_3_4, bs_22_1_0, bs_23_0_, bs_23_1_0, bs_24_0_, bs_24_1_0, bs_45_0_, bs_45_1_0, bs_45_2_0_1, bs_57_1_0, ixv_33_i64_2, ixv_33_i64_4, cv_3_56, cv_5_3]
  | n + 1, j, hn => by
    have hx : (j : Int) < (h : Int) := by omega
    have e2 : IntKind.i64.wrap ((j : Int) + 1) = ((j + 1 : Nat) : Int) := by rw [wrap64 (by omega) (by omega)]; omega
    have em : aBin p .mul 30 (.int .u32 ((2 ^ j : Nat) : Int)) (.int .u32 2) = some (.int .u32 ((2 ^ (j + 1) : Nat) : Int)) := by
      have : j = 0 ∨ j = 1 ∨ j = 2 ∨ j = 3 ∨ j = 4 ∨ j = 5 := by omega
      rcases this with rfl | rfl | rfl | rfl | rfl | rfl
      · exact m2_0
      · exact m2_1
      · exact m2_2
      · exact m2_3
      · exact m2_4
      · exact m2_5
    have ih := rroute_loop g h hh f t ht y3 y4 y5 y6 y7 y8 y11 y12 y13 y14 y15 y16 y17 y18 y19 y20 y21 y22 y23 y24 y25 y26 y27 y28 y29 y37 y38 y39 y40 y41 y42 y43 y44 y45 n (j + 1) (by omega)
    generalize 2 ^ j = z at *
    generalize 2 ^ (j + 1) = z1 at *
    rw [r38_111010]
    simp -implicitDefEqProofs (maxSteps := 1000000) (disch := (refine id ?_; first | with_reducible assumption )) only [hx, e2, em, ↓bindV_some, ↓bindS_some, ↓bindT_some, ↓bindO_some, ↓condK_true, ↓condK_false, ↓condB_true, ↓condB_false, ↓gV_tt, ↓gV_tf, ↓gV_ft, ↓gV_ff, ↓gV_undef, wV_true, wV_false, ↓wO_true, ↓wO_false, ↓wS_true, ↓wS_false, ↓wT_true, ↓wT_false, bindV_some, bindS_some, bindT_some, bindO_some, condK_true, condK_false, ↓gV_t, ↓gV_f, gV_wt, gV_wf, wV_wV, wV_and, wrap64, wrapu32, wrapu8, wrapu64, ↓condK_B, wO_true, wO_false, wS_true, wS_false, wT_true, wT_false, wV_pos, wO_val, wS_val, pick_and, pick_or, pick_bool, pick_int, gcR_B, bindO_B, bin_add, bin_sub, bin_mul, bin_lss, bin_leq, bin_gtr, bin_geq, bin_eql, bin_neq, bin_and, bin_or, bin_xor, bin_andNot, un_not, un_neg, un_compl32, pick_true, pick_false, bin_str_eql, bin_str_neq, ex_nth, nil_ptr, nil_func, box_agg, box_int, box_bool, box_string, box_slice, box_pointer, cell_at, cells_at, put_cons, cellOf_row, cellsOf_row, putOf_row, nth_zero, nth_succ, aggOf_some, new_self, pos1, cast0, cast1, eq_self, new_upd, new_at, new_lo, upd_lo, new_c, new_lock, upd_self, upd_c, upd_lock, relock_heap, relock_c, relock_lock, relock_new, bindO_bindS, bindO_bindO, pick_or2, or_false, false_or, or_true, true_or, or_self, relock2, relock_id, storable_func, box_func, bne_ff, bne_tt, bne_tf, bne_ft, beq_tt, beq_ff, qS_true, unlock_some, splice_nil, splice_cons, decide_true, decide_false, beq_self_eq_true, and_self, and_true, true_and, and_false, false_and, if_true, if_false, Bool.not_true, Bool.not_false, Nat.zero_add, Nat.add_zero, List.length_cons, List.length_nil, List.drop_zero, List.drop_succ_cons, List.take_succ_cons, List.take_zero, List.set_cons_zero, List.set_cons_succ, List.all_cons, List.all_nil, storable_int, storable_bool, storable_string, storable_pointer, storable_slice, Bool.and_true, Bool.true_and, Bool.and_self, bff, bft, not_true_eq_false, not_false_eq_true, Nat.reduceAdd, Nat.reduceSub, Nat.reduceMul, Nat.reduceLeDiff, Nat.reduceLT, Nat.reduceEqDiff, Int.reduceLE, Int.reduceLT, Int.reduceAdd, Int.reduceNeg, Int.reduceEq, Int.reduceSub, Int.reduceMul, Int.reduceToNat, Int.toNat_natCast, Int.toNat_zero, Nat.zero_mul, Nat.mul_one, Bool.or_false, Bool.false_or, Bool.false_and, Bool.and_false, Bool.or_true, Bool.true_or, ↓reduceIte, Nat.le_refl, Option.isNone_some, Option.isNone_none, decide_eq_true_eq, Bool.not_eq_true', Bool.and_eq_true, Bool.or_eq_true, decide_eq_false_iff_not, Bool.not_not, reduceCtorEq, call_10, call_11, call_12, call_13, call_14, call_15, call_16, call_17, call_18, call_19, call_20, call_21, call_22, call_23, call_24, call_25, call_26, call_27, call_28, call_29, call_30, call_31, call_32, call_34, call_35, call_36, call_37, call_38, call_39, call_40, call_41, call_42, call_43, call_44, call_45, call_46, call_47, call_48, call_49, call_50, call_52, call_54, call_56, call_59, call_61, call_63, call_64, call_65, call_66, call_67, call_68, call_69, call_70, clo_33, clo_51, clo_53, clo_55, clo_57, clo_58, clo_60, clo_62, clo_71, ld_2, st_2, ld_3, st_3, ld_4, st_4, beql_4, bneq_4, ld_5, st_5, ld_22, st_22, len_22, ix_22, bsl_22, ld_23, st_23, len_23, ix_23, bsl_23, ld_24, st_24, len_24, ix_24, bsl_24, fa_26_0, fa_26_1, fa_26_2, fa_26_3, fa_26_4, fa_26_5, fa_26_6, fa_26_7, fa_26_8, ld_26, st_26, ld_30, st_30, fa_32_0, fa_32_1, fa_32_2, fa_32_3, ld_32, st_32, bseql_32, bsneq_32, ld_33, st_33, ixa_33, ld_45, st_45, len_45, ix_45, bsl_45, fa_47_0, fa_47_1, fa_47_2, fa_47_3, ld_47, st_47, bseql_47, bsneq_47, ld_48, st_48, ixa_48, ld_56, st_56, ld_57, st_57, len_57, ix_57, bsl_57, ld_70, st_70, ld_75, st_75, al_26, al_32, al_33, al_47, al_70, bu_26_0_1_2_3_4_8, bu_32_0_1_2_3, bu_33_0_1_2_3_4, bs_22_1_0, bs_23_0_, bs_23_1_0, bs_24_0_, bs_24_1_0, bs_45_0_, bs_45_1_0, bs_45_2_0_1, bs_57_1_0, ixv_33_i64_2, ixv_33_i64_4, cv_3_56, cv_5_3]
    exact ih
set_option maxRecDepth 100000 in
theorem RRoute_eq (g : Gd W S) (hosts : Int) (hh : 1 ≤ hosts ∧ hosts ≤ 6) (f : Int) (t : Nat) (ht : t < 4294967296) (sz : Int) : cw W 38 #[i64 hosts, i64 f, u32 t, i64 sz] S = some (.bool (route hosts f t sz), S) := by
  obtain ⟨h, rfl⟩ := Int.eq_ofNat_of_zero_le (show 0 ≤ hosts by omega)
  have el : ∀ y3 y4 y5 y6 y7 y8 y11 y12 y13 y14 y15 y16 y17 y18 y19 y20 y21 y22 y23 y24 y25 y26 y27 y28 y29 y37 y38 y39 y40 y41 y42 y43 y44 y45, bindO (l38_111010 W (i64 (h : Int)) (i64 f) (u32 t) y3 y4 y5 y6 y7 y8 (.int .u32 1) (.int .i64 0) y11 y12 y13 y14 y15 y16 y17 y18 y19 y20 y21 y22 y23 y24 y25 y26 y27 y28 y29 y37 y38 y39 y40 y41 y42 y43 y44 y45 S) (kc W c38 [1, 1, 1, 0, 1, 0] f38) = some (.bool (decide (t < 2 ^ h) && !has t f), S) := fun y3 y4 y5 y6 y7 y8 y11 y12 y13 y14 y15 y16 y17 y18 y19 y20 y21 y22 y23 y24 y25 y26 y27 y28 y29 y37 y38 y39 y40 y41 y42 y43 y44 y45 => rroute_loop g h (by omega) f t ht y3 y4 y5 y6 y7 y8 y11 y12 y13 y14 y15 y16 y17 y18 y19 y20 y21 y22 y23 y24 y25 y26 y27 y28 y29 y37 y38 y39 y40 y41 y42 y43 y44 y45 h 0 rfl
  rw [eq38]
  have hN := g.n; have hL : S.lock ≤ S.c := g.ok.1
  have ed : decide (t < 2 ^ h) = decide (t / 2 ^ h = 0) := by
    rw [Bool.eq_iff_iff, decide_eq_true_iff, decide_eq_true_iff]
    have : 0 < 2 ^ h := Nat.pow_pos (by omega)
    rw [Nat.div_eq_zero_iff]
    omega
  unfold route
  rw [Int.toNat_natCast]
  simp -implicitDefEqProofs (maxSteps := 1000000) (disch := (refine id ?_; first | with_reducible assumption | ((fail_if_success (with_reducible apply isT_of)); (fail_if_success (first | fail)); first | omega | (with_reducible apply Gd.cl; with_reducible assumption) | with_reducible exact Low.rfl' _ | (simp only [flatR_int, flatR_bool, flatR_string, flatR_tuple, flatR_agg, flat_int, flat_bool, flat_string, flat_agg, flat0_int, flat0_bool, flat0_string, List.all_cons, List.all_nil, Bool.and_self, Bool.and_true, Bool.true_and]; done) | (simp only [objLt_row, objLt_dead, List.all_cons, List.all_nil, vlt1_int, vlt1_bool, vlt1_string, vlt1_nilp, vlt1_nils, vlt1_ptr, vlt1_sl, vlt1_func, vlt0_ptr, vlt0_sl, vlt0_int, vlt0_bool, vlt0_string, vlt0_nilp, vlt0_nils, vlt_int, vlt_bool, vlt_string, vlt_nilp, vlt_nils, vlt_ptr, vlt_sl, vlt_agg, vlt_func, List.toArray, Bool.and_true, Bool.true_and, Bool.and_self, Bool.and_eq_true, decide_eq_true_eq, and_true, true_and, new_c, upd_c, relock_c]; (try omega); done) | fail))) only [el, gcR_some, ↓bindV_some, bindV_some, ↓gV_f, ↓condK_B, wV_pos, wO_val, pick_or, gcR_B, bin_lss, bin_gtr, bin_geq, bin_eql, eq_self, and_self, Bool.and_self, Nat.reduceAdd, Nat.reduceSub, Nat.reduceMul, Nat.reduceLeDiff, Nat.reduceLT, Nat.reduceEqDiff, Int.reduceLE, Int.reduceLT, Int.reduceAdd, Int.reduceNeg, Int.reduceEq, Int.reduceSub, Int.reduceMul, Int.reduceToNat, Int.toNat_natCast, ↓reduceIte, decide_eq_true_eq, Bool.not_eq_true', Bool.and_eq_true, Bool.or_eq_true, decide_eq_false_iff_not, reduceCtorEq]
  rw [ed]
  unfold condB
  split
  · rename_i hc
    refine congrArg (fun b => some (Value.bool b, S)) ?_
    symm
    rw [decide_eq_false_iff_not]
    intro hx
    omega
  · rename_i hc
    refine congrArg (fun b => some (Value.bool b, S)) ?_
    rw [Bool.eq_iff_iff]
    simp only [Bool.and_eq_true, decide_eq_true_eq, Bool.not_eq_true']
    constructor
    · rintro ⟨a, b⟩; exact ⟨by omega, by omega, by omega, a, b, by omega, by omega⟩
    · rintro ⟨a, b, c, d, e, i⟩; exact ⟨d, e⟩
end
end Go.Proofs.Ytogcdgdnjinjkaa.F
end
section
namespace Go.Proofs.Ytogcdgdnjinjkaa.F
open Go Go.Proofs.Ytogcdgdnjinjkaa.E
set_option linter.unusedVariables false
set_option linter.unusedSimpArgs false
section
variable {W : World} {S : St}
theorem RPlain_eq (g : Gd W S) (c : Cfg) (q : Pl) (hq : vlt S.c (cvl c q) = true) (e : En) (he : e.t < 4294967296) : cw W 13 #[cvl c q, evl e] S = some (.bool (plain c e), S) := by
  rw [eq13]
  have hN := g.n; have hL : S.lock ≤ S.c := g.ok.1
  have g1 := g.new (o := .row [Value.int .i64 c.hosts, .int .i64 c.cycle, .int .i64 c.delay, .int .i64 c.window, .int .i64 c.prec, .slice q.ad c.delays.length q.cd, .slice q.ae c.entries.length q.ce, .slice q.al c.links.length q.cl, .int .i64 c.queue] 0) (objLt_mono (Nat.le_succ _) (cvl_obj hq))
  have g2 := g1.new (o := .row [Value.int .i64 e.f, .int .u32 (e.t : Int), .int .i64 e.ph, .int .i64 e.sz] 0) rfl
  have hq2 : vlt (S.c + 1 + 1) (cvl c q) = true := vlt_mono (by omega) hq
  have ha : [cvl c q, evl e].all (vlt S.c) = true := by rw [List.all_cons, hq, List.all_cons, vlt_en]; rfl
  have es := RSpans_eq g2 c q hq2
  have er := RRoute_eq g2 6 (by decide) e.f e.t he e.sz
  simp -implicitDefEqProofs (maxSteps := 1000000) (disch := (refine id ?_; first | with_reducible assumption | ((first | fail); (first | (simp +arith only [new_c, new_lock, upd_c, upd_lock, relock_c, relock_lock]; done) | (refine Nat.le_trans hN ?_; simp +arith only [new_c, new_lock, upd_c, upd_lock, relock_c, relock_lock]; done) | fail)) | ((fail_if_success (with_reducible apply isT_of)); (fail_if_success (first | fail)); first | (simp +arith only [new_c, new_lock, upd_c, upd_lock, relock_c, relock_lock]; done) | (refine Nat.le_trans hN ?_; simp +arith only [new_c, new_lock, upd_c, upd_lock, relock_c, relock_lock]; done) | (with_reducible apply Gd.cl; with_reducible assumption) | with_reducible exact Low.rfl' _ | (with_reducible refine Low.new ?_ _; (repeat (first | with_reducible exact Low.rfl' _ | with_reducible assumption | refine Low.new ?_ _ )); done) | (simp only [flatR_int, flatR_bool, flatR_string, flatR_tuple, flatR_agg, flat_int, flat_bool, flat_string, flat_agg, flat0_int, flat0_bool, flat0_string, List.all_cons, List.all_nil, Bool.and_self, Bool.and_true, Bool.true_and]; done) | fail))) only [es, er, ha, gcR_some, ↓bindV_some, ↓bindS_some, bindV_some, bindS_some, ↓gV_t, wV_pos, wO_val, wS_val, pick_and, bin_leq, bin_geq, box_agg, cell_at, cells_at, cellOf_row, cellsOf_row, nth_zero, nth_succ, aggOf_some, eq_self, new_at, new_lo, new_c, Nat.zero_add, List.length_cons, List.length_nil, List.drop_zero, List.take_succ_cons, List.take_zero, List.all_cons, Nat.reduceAdd, Nat.reduceSub, Nat.reduceMul, Nat.reduceLeDiff, Nat.reduceLT, Nat.reduceEqDiff, Int.reduceLE, Int.reduceLT, Int.reduceAdd, Int.reduceNeg, Int.reduceEq, Int.reduceSub, Int.reduceMul, Int.reduceToNat, ↓reduceIte, Nat.le_refl, decide_eq_true_eq, Bool.and_eq_true, reduceCtorEq, call_35, call_38, ld_2, ld_3, ld_26, ld_30, fa_32_0, fa_32_1, fa_32_2, fa_32_3]
  refine congrArg (fun b => some (Value.bool b, S)) ?_
  unfold plain inB
  rw [Bool.eq_iff_iff]
  simp only [Bool.and_eq_true, decide_eq_true_eq, and_assoc]
end
end Go.Proofs.Ytogcdgdnjinjkaa.F
end
section
namespace Go.Proofs.Ytogcdgdnjinjkaa.F
open Go Go.Proofs.Ytogcdgdnjinjkaa.E
set_option linter.unusedVariables false
set_option linter.unusedSimpArgs false
section
variable {W : World} {S : St}
set_option maxHeartbeats 400000 in
theorem rin_step (g : Gd W S) (c : Cfg) (q : Pl) {bc : Nat} (hb : S.heap bc = .row (ccs c q) 0) (hW : W.heap.size ≤ bc) (b o : Nat) (eA : q.ad = some ⟨b, o, none⟩) (j : Nat) (hx : (j : Int) < (c.delays.length : Int)) (b1 o1 sc : Nat) (e5 : S.cell W ⟨b, o + j, none⟩ = some (.slice (some ⟨b1, o1, none⟩) 2 sc)) (k : Nat) (hk : k < 2) (n0 : Int) (f0 : S.cell W ⟨b1, o1 + k, none⟩ = some (.int .i64 n0)) (a0 : ¬ n0 < 0) (b0 : ¬ c.delay < n0)
    (y0 y5 y6 y7 y8 y9 y10 y11 y12 y13 y14 y15 y16 y17 y18 y19 y20 y21 y22 y23 y24 : Value) :
    l36_110100100110 W y0 (.pointer (some ⟨bc, 0, none⟩)) (.int .i64 (j : Int)) (.int .i64 (k : Int)) y5 y6 y7 y8 y9 y10 y11 y12 y13 y14 y15 y16 y17 y18 y19 y20 y21 y22 y23 y24 S = l36_110100100110 W y0 (.pointer (some ⟨bc, 0, none⟩)) (.int .i64 (j : Int)) (.int .i64 ((k + 1 : Nat) : Int)) y5 y6 y7 y8 y9 y10 y11 y12 y13 y14 y15 y16 y17 y18 y19 y20 y21 y22 y23 y24 S := by
  have hlt := row_lt g.ok hb
  have hk' : (k : Int) < 2 := by omega
  have e2 : IntKind.i64.wrap ((k : Int) + 1) = ((k + 1 : Nat) : Int) := by rw [wrap64 (by omega) (by omega)]; omega
  have hN := g.n; have hL : S.lock ≤ S.c := g.ok.1
  rw [r36_110100100110]
  simp -implicitDefEqProofs (maxSteps := 1000000) (disch := (refine id ?_; first | with_reducible assumption | (with_reducible refine IsT.left ?_; with_reducible assumption) | (with_reducible refine IsT.left (IsT.left ?_); with_reducible assumption) | ((first | with_reducible refine nat_lt_id ?_ | with_reducible refine nat_le_id ?_ | with_reducible refine nat_ne_id ?_); (first | (simp +arith only [new_c, new_lock, upd_c, upd_lock, relock_c, relock_lock]; done) | (simp only [new_c, new_lock, upd_c, upd_lock, relock_c, relock_lock]; with_reducible assumption) | (refine Nat.le_trans hN ?_; simp +arith only [new_c, new_lock, upd_c, upd_lock, relock_c, relock_lock]; done) | (refine Nat.le_trans hL ?_; simp +arith only [new_c, new_lock, upd_c, upd_lock, relock_c, relock_lock]; done) | (apply Nat.lt_of_lt_of_le; with_reducible assumption; simp +arith only [new_c, new_lock, upd_c, upd_lock, relock_c, relock_lock]; done) | (apply Nat.ne_of_lt; apply Nat.lt_of_lt_of_le; with_reducible assumption; simp +arith only [new_c, new_lock, upd_c, upd_lock, relock_c, relock_lock]; done) | fail)) | ((fail_if_success (with_reducible apply isT_of)); (fail_if_success (first | with_reducible refine nat_lt_id ?_ | with_reducible refine nat_le_id ?_ | with_reducible refine nat_ne_id ?_)); first | (simp +arith only [new_c, new_lock, upd_c, upd_lock, relock_c, relock_lock]; done) | (refine Nat.le_trans hN ?_; simp +arith only [new_c, new_lock, upd_c, upd_lock, relock_c, relock_lock]; done) | (refine Nat.le_trans hL ?_; simp +arith only [new_c, new_lock, upd_c, upd_lock, relock_c, relock_lock]; done) | omega | (with_reducible apply Gd.cl; with_reducible assumption) | (simp only [new_c, new_lock, upd_c, upd_lock, relock_c, relock_lock] <;> omega) | with_reducible exact Low.rfl' _ | (with_reducible refine Low.new ?_ _; (repeat (first | with_reducible exact Low.rfl' _ | with_reducible assumption | refine Low.new ?_ _ | refine Low.upd ?_ (by (first | omega | (simp only [new_c, upd_c, relock_c] <;> omega))) _)); done) | (with_reducible refine Low.upd ?_ (by (first | omega | (simp only [new_c, upd_c, relock_c] <;> omega))) _; (repeat (first | with_reducible exact Low.rfl' _ | with_reducible assumption | refine Low.new ?_ _ | refine Low.upd ?_ (by (first | omega | (simp only [new_c, upd_c, relock_c] <;> omega))) _)); done) | (with_reducible refine Gd.new ?_ (by (simp only [objLt_row, objLt_dead, List.all_cons, List.all_nil, vlt1_int, vlt1_bool, vlt1_string, vlt1_nilp, vlt1_nils, vlt1_ptr, vlt1_sl, vlt1_func, vlt0_ptr, vlt0_sl, vlt0_int, vlt0_bool, vlt0_string, vlt0_nilp, vlt0_nils, vlt_int, vlt_bool, vlt_string, vlt_nilp, vlt_nils, vlt_ptr, vlt_sl, vlt_agg, vlt_func, List.toArray, Bool.and_true, Bool.true_and, Bool.and_self, Bool.and_eq_true, decide_eq_true_eq, and_true, true_and, new_c, upd_c, relock_c] <;> omega)); (repeat (first | with_reducible assumption | refine Gd.new ?_ (by (simp only [objLt_row, objLt_dead, List.all_cons, List.all_nil, vlt1_int, vlt1_bool, vlt1_string, vlt1_nilp, vlt1_nils, vlt1_ptr, vlt1_sl, vlt1_func, vlt0_ptr, vlt0_sl, vlt0_int, vlt0_bool, vlt0_string, vlt0_nilp, vlt0_nils, vlt_int, vlt_bool, vlt_string, vlt_nilp, vlt_nils, vlt_ptr, vlt_sl, vlt_agg, vlt_func, List.toArray, Bool.and_true, Bool.true_and, Bool.and_self, Bool.and_eq_true, decide_eq_true_eq, and_true, true_and, new_c, upd_c, relock_c] <;> omega)) | refine Gd.upd ?_ (by (first | omega | (simp only [new_c, upd_c, relock_c] <;> omega))) (by (simp only [objLt_row, objLt_dead, List.all_cons, List.all_nil, vlt1_int, vlt1_bool, vlt1_string, vlt1_nilp, vlt1_nils, vlt1_ptr, vlt1_sl, vlt1_func, vlt0_ptr, vlt0_sl, vlt0_int, vlt0_bool, vlt0_string, vlt0_nilp, vlt0_nils, vlt_int, vlt_bool, vlt_string, vlt_nilp, vlt_nils, vlt_ptr, vlt_sl, vlt_agg, vlt_func, List.toArray, Bool.and_true, Bool.true_and, Bool.and_self, Bool.and_eq_true, decide_eq_true_eq, and_true, true_and, new_c, upd_c, relock_c] <;> omega)) | refine Gd.relock ?_)); done) | (with_reducible refine Gd.upd ?_ (by (first | omega | (simp only [new_c, upd_c, relock_c] <;> omega))) (by (simp only [objLt_row, objLt_dead, List.all_cons, List.all_nil, vlt1_int, vlt1_bool, vlt1_string, vlt1_nilp, vlt1_nils, vlt1_ptr, vlt1_sl, vlt1_func, vlt0_ptr, vlt0_sl, vlt0_int, vlt0_bool, vlt0_string, vlt0_nilp, vlt0_nils, vlt_int, vlt_bool, vlt_string, vlt_nilp, vlt_nils, vlt_ptr, vlt_sl, vlt_agg, vlt_func, List.toArray, Bool.and_true, Bool.true_and, Bool.and_self, Bool.and_eq_true, decide_eq_true_eq, and_true, true_and, new_c, upd_c, relock_c] <;> omega)); (repeat (first | with_reducible assumption | refine Gd.new ?_ (by (simp only [objLt_row, objLt_dead, List.all_cons, List.all_nil, vlt1_int, vlt1_bool, vlt1_string, vlt1_nilp, vlt1_nils, vlt1_ptr, vlt1_sl, vlt1_func, vlt0_ptr, vlt0_sl, vlt0_int, vlt0_bool, vlt0_string, vlt0_nilp, vlt0_nils, vlt_int, vlt_bool, vlt_string, vlt_nilp, vlt_nils, vlt_ptr, vlt_sl, vlt_agg, vlt_func, List.toArray, Bool.and_true, Bool.true_and, Bool.and_self, Bool.and_eq_true, decide_eq_true_eq, and_true, true_and, new_c, upd_c, relock_c] <;> omega)) | refine Gd.upd ?_ (by (first | omega | (simp only [new_c, upd_c, relock_c] <;> omega))) (by (simp only [objLt_row, objLt_dead, List.all_cons, List.all_nil, vlt1_int, vlt1_bool, vlt1_string, vlt1_nilp, vlt1_nils, vlt1_ptr, vlt1_sl, vlt1_func, vlt0_ptr, vlt0_sl, vlt0_int, vlt0_bool, vlt0_string, vlt0_nilp, vlt0_nils, vlt_int, vlt_bool, vlt_string, vlt_nilp, vlt_nils, vlt_ptr, vlt_sl, vlt_agg, vlt_func, List.toArray, Bool.and_true, Bool.true_and, Bool.and_self, Bool.and_eq_true, decide_eq_true_eq, and_true, true_and, new_c, upd_c, relock_c] <;> omega)) | refine Gd.relock ?_)); done) | (with_reducible refine Gd.relock2 ?_ ?_; rotate_left; simp only [new_c, upd_c, relock_c]; (repeat (first | with_reducible assumption | refine Gd.new ?_ (by (simp only [objLt_row, objLt_dead, List.all_cons, List.all_nil, vlt1_int, vlt1_bool, vlt1_string, vlt1_nilp, vlt1_nils, vlt1_ptr, vlt1_sl, vlt1_func, vlt0_ptr, vlt0_sl, vlt0_int, vlt0_bool, vlt0_string, vlt0_nilp, vlt0_nils, vlt_int, vlt_bool, vlt_string, vlt_nilp, vlt_nils, vlt_ptr, vlt_sl, vlt_agg, vlt_func, List.toArray, Bool.and_true, Bool.true_and, Bool.and_self, Bool.and_eq_true, decide_eq_true_eq, and_true, true_and, new_c, upd_c, relock_c] <;> omega)) | refine Gd.upd ?_ (by (first | omega | (simp only [new_c, upd_c, relock_c] <;> omega))) (by (simp only [objLt_row, objLt_dead, List.all_cons, List.all_nil, vlt1_int, vlt1_bool, vlt1_string, vlt1_nilp, vlt1_nils, vlt1_ptr, vlt1_sl, vlt1_func, vlt0_ptr, vlt0_sl, vlt0_int, vlt0_bool, vlt0_string, vlt0_nilp, vlt0_nils, vlt_int, vlt_bool, vlt_string, vlt_nilp, vlt_nils, vlt_ptr, vlt_sl, vlt_agg, vlt_func, List.toArray, Bool.and_true, Bool.true_and, Bool.and_self, Bool.and_eq_true, decide_eq_true_eq, and_true, true_and, new_c, upd_c, relock_c] <;> omega)) | refine Gd.relock ?_)); done) | (with_reducible refine nat_eq_id ?_; first | with_reducible rfl | (simp only [new_lock, upd_lock, relock_lock, new_c, upd_c, relock_c]; done)) | (simp (disch := (simp only [new_c, upd_c, relock_c] <;> omega)) only [new_at, new_lo, upd_self, upd_lo, relock_heap]; done) | (with_reducible refine Rd.low (by with_reducible assumption) ?_; (repeat (first | with_reducible exact Low.rfl' _ | with_reducible assumption | refine Low.new ?_ _ | refine Low.upd ?_ (by (first | omega | (simp only [new_c, upd_c, relock_c] <;> omega))) _)); done) | (simp only [flatR_int, flatR_bool, flatR_string, flatR_tuple, flatR_agg, flat_int, flat_bool, flat_string, flat_agg, flat0_int, flat0_bool, flat0_string, List.all_cons, List.all_nil, Bool.and_self, Bool.and_true, Bool.true_and]; done) | ((first | with_reducible refine int_lt_id ?_ | with_reducible refine int_le_id ?_); simp only [IsT, decide_eq_true_eq, Bool.and_eq_true, Bool.or_eq_true, Bool.not_eq_true', decide_eq_false_iff_not] at *; omega) | (simp only [objLt_row, objLt_dead, List.all_cons, List.all_nil, vlt1_int, vlt1_bool, vlt1_string, vlt1_nilp, vlt1_nils, vlt1_ptr, vlt1_sl, vlt1_func, vlt0_ptr, vlt0_sl, vlt0_int, vlt0_bool, vlt0_string, vlt0_nilp, vlt0_nils, vlt_int, vlt_bool, vlt_string, vlt_nilp, vlt_nils, vlt_ptr, vlt_sl, vlt_agg, vlt_func, List.toArray, Bool.and_true, Bool.true_and, Bool.and_self, Bool.and_eq_true, decide_eq_true_eq, and_true, true_and, new_c, upd_c, relock_c]; (try omega); done) | fail))) only [hb, hx, hk', e2, eA, e5, f0, a0, b0, ↓bindV_some, ↓bindS_some, ↓bindT_some, ↓bindO_some, ↓condK_true, ↓condK_false, ↓condB_true, ↓condB_false, ↓gV_tt, ↓gV_tf, ↓gV_ft, ↓gV_ff, ↓gV_undef, wV_true, wV_false, ↓wO_true, ↓wO_false, ↓wS_true, ↓wS_false, ↓wT_true, ↓wT_false, bindV_some, bindS_some, bindT_some, bindO_some, condK_true, condK_false, ↓gV_t, ↓gV_f, gV_wt, gV_wf, wV_wV, wV_and, wrap64, wrapu32, wrapu8, wrapu64, ↓condK_B, wO_true, wO_false, wS_true, wS_false, wT_true, wT_false, wV_pos, wO_val, wS_val, pick_and, pick_or, pick_bool, pick_int, gcR_B, bindO_B, bin_add, bin_sub, bin_mul, bin_lss, bin_leq, bin_gtr, bin_geq, bin_eql, bin_neq, bin_and, bin_or, bin_xor, bin_andNot, un_not, un_neg, un_compl32, pick_true, pick_false, bin_str_eql, bin_str_neq, ex_nth, nil_ptr, nil_func, box_agg, box_int, box_bool, box_string, box_slice, box_pointer, cell_at, cells_at, put_cons, cellOf_row, cellsOf_row, putOf_row, nth_zero, nth_succ, aggOf_some, new_self, pos1, cast0, cast1, eq_self, new_upd, new_at, new_lo, upd_lo, new_c, new_lock, upd_self, upd_c, upd_lock, relock_heap, relock_c, relock_lock, relock_new, bindO_bindS, bindO_bindO, pick_or2, or_false, false_or, or_true, true_or, or_self, relock2, relock_id, storable_func, box_func, bne_ff, bne_tt, bne_tf, bne_ft, beq_tt, beq_ff, qS_true, unlock_some, splice_nil, splice_cons, decide_true, decide_false, beq_self_eq_true, and_self, and_true, true_and, and_false, false_and, if_true, if_false, Bool.not_true, Bool.not_false, Nat.zero_add, Nat.add_zero, List.length_cons, List.length_nil, List.drop_zero, List.drop_succ_cons, List.take_succ_cons, List.take_zero, List.set_cons_zero, List.set_cons_succ, List.all_cons, List.all_nil, storable_int, storable_bool, storable_string, storable_pointer, storable_slice, Bool.and_true, Bool.true_and, Bool.and_self, bff, bft, not_true_eq_false, not_false_eq_true, Nat.reduceAdd, Nat.reduceSub, Nat.reduceMul, Nat.reduceLeDiff, Nat.reduceLT, Nat.reduceEqDiff, Int.reduceLE, Int.reduceLT, Int.reduceAdd, Int.reduceNeg, Int.reduceEq, Int.reduceSub, Int.reduceMul, Int.reduceToNat, Int.toNat_natCast, Int.toNat_zero, Nat.zero_mul, Nat.mul_one, Bool.or_false, Bool.false_or, Bool.false_and, Bool.and_false, Bool.or_true, Bool.true_or, ↓reduceIte, Nat.le_refl, Option.isNone_some, Option.isNone_none, decide_eq_true_eq, Bool.not_eq_true', Bool.and_eq_true, Bool.or_eq_true, decide_eq_false_iff_not, Bool.not_not, reduceCtorEq, call_10, call_11, call_12, call_13, call_14, call_15, call_16, call_17, call_18, call_19, call_20, call_21, call_22, call_23, call_24, call_25, call_26, call_27, call_28, call_29, call_30, call_31, call_32, call_34, call_35, call_36, call_37, call_38, call_39, call_40, call_41, call_42, call_43, call_44, call_45, call_46, call_47, call_48, call_49, call_50, call_52, call_54, call_56, call_59, call_61, call_63, call_64, call_65, call_66, call_67, call_68, call_69, call_70, clo_33, clo_51, clo_53, clo_55, clo_57, clo_58, clo_60, clo_62, clo_71, ld_2, st_2, ld_3, st_3, ld_4, st_4, beql_4, bneq_4, ld_5, st_5, ld_22, st_22, len_22, ix_22, bsl_22, ld_23, st_23, len_23, ix_23, bsl_23, ld_24, st_24, len_24, ix_24, bsl_24, fa_26_0, fa_26_1, fa_26_2, fa_26_3, fa_26_4, fa_26_5, fa_26_6, fa_26_7, fa_26_8, ld_26, st_26, ld_30, st_30, fa_32_0, fa_32_1, fa_32_2, fa_32_3, ld_32, st_32, bseql_32, bsneq_32, ld_33, st_33, ixa_33, ld_45, st_45, len_45, ix_45, bsl_45, fa_47_0, fa_47_1, fa_47_2, fa_47_3, ld_47, st_47, bseql_47, bsneq_47, ld_48, st_48, ixa_48, ld_56, st_56, ld_57, st_57, len_57, ix_57, bsl_57, ld_70, st_70, ld_75, st_75, al_26, al_32, al_33, al_47, al_70, bu_26_0_1_2_3_4_8, bu_32_0_1_2_3, bu_33_0_1_2_3_4, bs_22_1_0, bs_23_0_, bs_23_1_0, bs_24_0_, bs_24_1_0, bs_45_0_, bs_45_1_0, bs_45_2_0_1, bs_57_1_0, ixv_33_i64_2, ixv_33_i64_4, cv_3_56, cv_5_3]
end
end Go.Proofs.Ytogcdgdnjinjkaa.F
end
section
namespace Go.Proofs.Ytogcdgdnjinjkaa.F
open Go Go.Proofs.Ytogcdgdnjinjkaa.E
set_option linter.unusedVariables false
set_option linter.unusedSimpArgs false
section
variable {W : World} {S : St}
theorem cast2 : ((2 : Nat) : Int) = 2 := rfl
theorem row2 (c : Cfg) (n0 n1 : Int) : rowBad c [n0, n1] = (!inB n0 0 c.delay || !inB n1 0 c.delay) := by simp [rowBad]
theorem rin_bad1 (g : Gd W S) (c : Cfg) (q : Pl) {bc : Nat} (hb : S.heap bc = .row (ccs c q) 0) (hW : W.heap.size ≤ bc) (b o : Nat) (eA : q.ad = some ⟨b, o, none⟩) (j : Nat) (hx : (j : Int) < (c.delays.length : Int)) (hlen : c.delays.length ≤ 2 ^ 60) (b1 o1 sc : Nat) (e5 : S.cell W ⟨b, o + j, none⟩ = some (.slice (some ⟨b1, o1, none⟩) 2 sc)) (n0 n1 : Int) (f0 : S.cell W ⟨b1, o1, none⟩ = some (.int .i64 n0)) (f1 : S.cell W ⟨b1, o1 + 1, none⟩ = some (.int .i64 n1)) (k : Nat) (hk : k < 2) (m : Int) (fm : S.cell W ⟨b1, o1 + k, none⟩ = some (.int .i64 m)) (bad : inB m 0 c.delay = false) (y0 y5 y6 y7 y8 y9 y10 y11 y12 y13 y14 y15 y16 y17 y18 y19 y20 y21 y22 y23 y24 : Value) :
    bindO (l36_110100100110 W y0 (.pointer (some ⟨bc, 0, none⟩)) (.int .i64 (j : Int)) (.int .i64 (k : Int)) y5 y6 y7 y8 y9 y10 y11 y12 y13 y14 y15 y16 y17 y18 y19 y20 y21 y22 y23 y24 S) (fun e A S => bindO (rk W c36_11010 [1, 0, 0, 1, 1, 0] e A S) (kc W c36 [1, 1, 0, 1, 0] f36)) = some (.bool false, S) := by
  have hlt := row_lt g.ok hb
  have hk' : (k : Int) < 2 := by omega
  have hN := g.n; have hL : S.lock ≤ S.c := g.ok.1
  rw [r36_110100100110]
  by_cases a0 : m < 0
  · simp -implicitDefEqProofs (maxSteps := 1000000) (disch := (refine id ?_; first | ((fail_if_success (with_reducible apply isT_of)); (fail_if_success (first | fail)); first | omega | fail))) only [hb, hk', eA, e5, fm, a0, k36_110100100110_ret, k36_11010_ret, ↓bindV_some, ↓bindO_some, ↓condB_true, wV_false, ↓wO_false, bindV_some, bindO_some, ↓gV_f, wrap64, ↓condK_B, wO_false, wV_pos, wO_val, bin_add, bin_lss, pick_true, cell_at, cellOf_row, nth_zero, nth_succ, eq_self, decide_true, Bool.not_true, Nat.zero_add, Int.toNat_natCast, Nat.mul_one, ld_2, ld_22, ix_22, fa_26_2, fa_26_5, ld_45, ix_45]
  · have b0 : c.delay < m := by simp only [inB, decide_eq_false_iff_not] at bad; omega
    simp -implicitDefEqProofs (maxSteps := 1000000) (disch := (refine id ?_; first | ((fail_if_success (with_reducible apply isT_of)); (fail_if_success (first | fail)); first | omega | fail))) only [hb, hk', eA, e5, fm, a0, b0, k36_110100100110_ret, k36_11010_ret, ↓bindV_some, ↓bindO_some, ↓condB_true, wV_true, bindV_some, bindO_some, ↓gV_f, wrap64, ↓condK_B, wV_pos, wO_val, pick_bool, bin_add, bin_lss, bin_gtr, cell_at, cellOf_row, nth_zero, nth_succ, eq_self, decide_true, decide_false, Bool.not_false, Nat.zero_add, Int.toNat_natCast, Nat.mul_one, ↓reduceIte, reduceCtorEq, ld_2, ld_22, ix_22, fa_26_2, fa_26_5, ld_45, ix_45]
theorem rin_end (g : Gd W S) (c : Cfg) (q : Pl) {bc : Nat} (hb : S.heap bc = .row (ccs c q) 0) (hW : W.heap.size ≤ bc) (b o : Nat) (eA : q.ad = some ⟨b, o, none⟩) (j : Nat) (hx : (j : Int) < (c.delays.length : Int)) (hlen : c.delays.length ≤ 2 ^ 60) (b1 o1 sc : Nat) (e5 : S.cell W ⟨b, o + j, none⟩ = some (.slice (some ⟨b1, o1, none⟩) 2 sc)) (n0 n1 : Int) (f0 : S.cell W ⟨b1, o1, none⟩ = some (.int .i64 n0)) (f1 : S.cell W ⟨b1, o1 + 1, none⟩ = some (.int .i64 n1)) (y0 y5 y6 y7 y8 y9 y10 y11 y12 y13 y14 y15 y16 y17 y18 y19 y20 y21 y22 y23 y24 : Value) :
    bindO (l36_110100100110 W y0 (.pointer (some ⟨bc, 0, none⟩)) (.int .i64 (j : Int)) (.int .i64 2) y5 y6 y7 y8 y9 y10 y11 y12 y13 y14 y15 y16 y17 y18 y19 y20 y21 y22 y23 y24 S) (fun e A S => bindO (rk W c36_11010 [1, 0, 0, 1, 1, 0] e A S) (kc W c36 [1, 1, 0, 1, 0] f36)) = bindO (l36_11010 W y0 (.pointer (some ⟨bc, 0, none⟩)) (.int .i64 ((j + 1 : Nat) : Int)) y5 y6 y7 y8 y9 y10 S) (kc W c36 [1, 1, 0, 1, 0] f36) := by
  have e2 : IntKind.i64.wrap ((j : Int) + 1) = ((j + 1 : Nat) : Int) := by rw [wrap64 (by omega) (by omega)]; omega
  have hN := g.n; have hL : S.lock ≤ S.c := g.ok.1
  rw [r36_110100100110]
  simp -implicitDefEqProofs (maxSteps := 1000000) (disch := (refine id ?_; first | fail)) only [e2, k36_110100100110_2, ↓bindV_some, ↓bindO_some, ↓condB_false, bindV_some, bindO_some, wrap64, ↓condK_B, wO_val, bin_add, bin_lss, cell_at, eq_self, decide_false, Nat.zero_add, Int.reduceLT, Int.reduceAdd, reduceCtorEq, ld_22, fa_26_2, fa_26_5]
theorem rin (g : Gd W S) (c : Cfg) (q : Pl) {bc : Nat} (hb : S.heap bc = .row (ccs c q) 0) (hW : W.heap.size ≤ bc) (b o : Nat) (eA : q.ad = some ⟨b, o, none⟩) (j : Nat) (hx : (j : Int) < (c.delays.length : Int)) (hlen : c.delays.length ≤ 2 ^ 60) (b1 o1 sc : Nat) (e5 : S.cell W ⟨b, o + j, none⟩ = some (.slice (some ⟨b1, o1, none⟩) 2 sc)) (n0 n1 : Int) (f0 : S.cell W ⟨b1, o1, none⟩ = some (.int .i64 n0)) (f1 : S.cell W ⟨b1, o1 + 1, none⟩ = some (.int .i64 n1)) (y0 y5 y6 y7 y8 y9 y10 y11 y12 y13 y14 y15 y16 y17 y18 y19 y20 y21 y22 y23 y24 : Value) :
    bindO (l36_110100100110 W y0 (.pointer (some ⟨bc, 0, none⟩)) (.int .i64 (j : Int)) (.int .i64 0) y5 y6 y7 y8 y9 y10 y11 y12 y13 y14 y15 y16 y17 y18 y19 y20 y21 y22 y23 y24 S) (fun e A S => bindO (rk W c36_11010 [1, 0, 0, 1, 1, 0] e A S) (kc W c36 [1, 1, 0, 1, 0] f36)) = if rowBad c [n0, n1] = true then some (.bool false, S) else bindO (l36_11010 W y0 (.pointer (some ⟨bc, 0, none⟩)) (.int .i64 ((j + 1 : Nat) : Int)) y5 y6 y7 y8 y9 y10 S) (kc W c36 [1, 1, 0, 1, 0] f36) := by
  rw [row2]
  cases h0 : inB n0 0 c.delay
  · exact rin_bad1 g c q hb hW b o eA j hx hlen b1 o1 sc e5 n0 n1 f0 f1 0 (by decide) n0 f0 h0 _ _ _ _ _ _ _ _ _ _ _ _ _ _ _ _ _ _ _ _ _
  · have d0 : ¬ n0 < 0 ∧ ¬ c.delay < n0 := by simp only [inB, decide_eq_true_eq] at h0; omega
    have s0 := rin_step g c q hb hW b o eA j hx b1 o1 sc e5 0 (by decide) n0 f0 d0.1 d0.2 y0 y5 y6 y7 y8 y9 y10 y11 y12 y13 y14 y15 y16 y17 y18 y19 y20 y21 y22 y23 y24
    rw [show ((0 : Nat) : Int) = 0 from rfl, show ((0 + 1 : Nat) : Int) = 1 from rfl] at s0
    rw [s0]
    cases h1 : inB n1 0 c.delay
    · exact rin_bad1 g c q hb hW b o eA j hx hlen b1 o1 sc e5 n0 n1 f0 f1 1 (by decide) n1 f1 h1 _ _ _ _ _ _ _ _ _ _ _ _ _ _ _ _ _ _ _ _ _
    · have d1 : ¬ n1 < 0 ∧ ¬ c.delay < n1 := by simp only [inB, decide_eq_true_eq] at h1; omega
      have s1 := rin_step g c q hb hW b o eA j hx b1 o1 sc e5 1 (by decide) n1 f1 d1.1 d1.2 y0 y5 y6 y7 y8 y9 y10 y11 y12 y13 y14 y15 y16 y17 y18 y19 y20 y21 y22 y23 y24
      rw [show ((1 : Nat) : Int) = 1 from rfl, show ((1 + 1 : Nat) : Int) = 2 from rfl] at s1
      rw [s1]
      exact rin_end g c q hb hW b o eA j hx hlen b1 o1 sc e5 n0 n1 f0 f1 y0 y5 y6 y7 y8 y9 y10 y11 y12 y13 y14 y15 y16 y17 y18 y19 y20 y21 y22 y23 y24
theorem rr_step (g : Gd W S) (c : Cfg) (q : Pl) {bc : Nat} (hb : S.heap bc = .row (ccs c q) 0) (hW : W.heap.size ≤ bc) (b o : Nat) (eA : q.ad = some ⟨b, o, none⟩) (j : Nat) (hx : (j : Int) < (c.delays.length : Int)) (hlen : c.delays.length ≤ 2 ^ 60) (b1 o1 sc : Nat) (e5 : S.cell W ⟨b, o + j, none⟩ = some (.slice (some ⟨b1, o1, none⟩) 2 sc)) (n0 n1 : Int) (f0 : S.cell W ⟨b1, o1, none⟩ = some (.int .i64 n0)) (f1 : S.cell W ⟨b1, o1 + 1, none⟩ = some (.int .i64 n1)) (y0 y5 y6 y7 y8 y9 y10 : Value) :
    bindO (l36_11010 W y0 (.pointer (some ⟨bc, 0, none⟩)) (.int .i64 (j : Int)) y5 y6 y7 y8 y9 y10 S) (kc W c36 [1, 1, 0, 1, 0] f36) = if rowBad c [n0, n1] = true then some (.bool false, S) else bindO (l36_11010 W y0 (.pointer (some ⟨bc, 0, none⟩)) (.int .i64 ((j + 1 : Nat) : Int)) y5 y6 y7 y8 y9 y10 S) (kc W c36 [1, 1, 0, 1, 0] f36) := by
  have hlt := row_lt g.ok hb
  have ri := rin g c q hb hW b o eA j hx hlen b1 o1 sc e5 n0 n1 f0 f1 y0 y5 y6 y7 y8 y9 y10
  have hN := g.n; have hL : S.lock ≤ S.c := g.ok.1
  rw [r36_11010]
  simp -implicitDefEqProofs (maxSteps := 1000000) (disch := (refine id ?_; first | ((fail_if_success (with_reducible apply isT_of)); (fail_if_success (first | fail)); first | omega | fail))) only [hb, hx, eA, e5, cast2, ↓bindV_some, ↓condB_true, ↓condB_false, bindV_some, ↓condK_B, bin_lss, bin_neq, cell_at, cellOf_row, nth_zero, nth_succ, eq_self, bindO_bindO, decide_true, Bool.not_true, Nat.zero_add, Int.toNat_natCast, Nat.mul_one, reduceCtorEq, ld_22, len_22, ix_22, fa_26_5, ld_45, len_45]
  exact ri _ _ _ _ _ _ _ _ _ _ _ _ _ _
theorem rr_bad (g : Gd W S) (c : Cfg) (q : Pl) {bc : Nat} (hb : S.heap bc = .row (ccs c q) 0) (hW : W.heap.size ≤ bc) (b o : Nat) (eA : q.ad = some ⟨b, o, none⟩) (j : Nat) (hx : (j : Int) < (c.delays.length : Int)) (hlen : c.delays.length ≤ 2 ^ 60) (a : Option Addr) (sn sc : Nat) (e5 : S.cell W ⟨b, o + j, none⟩ = some (.slice a sn sc)) (h2 : ¬ ((sn : Int) = 2)) (y0 y5 y6 y7 y8 y9 y10 : Value) :
    bindO (l36_11010 W y0 (.pointer (some ⟨bc, 0, none⟩)) (.int .i64 (j : Int)) y5 y6 y7 y8 y9 y10 S) (kc W c36 [1, 1, 0, 1, 0] f36) = some (.bool false, S) := by
  have hlt := row_lt g.ok hb
  have hN := g.n; have hL : S.lock ≤ S.c := g.ok.1
  rw [r36_11010]
  simp -implicitDefEqProofs (maxSteps := 1000000) (disch := (refine id ?_; first | ((fail_if_success (with_reducible apply isT_of)); (fail_if_success (first | fail)); first | omega | fail))) only [hb, hx, eA, e5, h2, k36_11010_ret, ↓bindV_some, ↓bindO_some, ↓condB_true, bindV_some, bindO_some, ↓condK_B, bin_lss, bin_neq, cell_at, cellOf_row, nth_zero, nth_succ, eq_self, decide_true, decide_false, Bool.not_false, Nat.zero_add, Int.toNat_natCast, Nat.mul_one, ld_22, len_22, ix_22, fa_26_5, ld_45, len_45]
theorem rr_end (g : Gd W S) (c : Cfg) (q : Pl) {bc : Nat} (hb : S.heap bc = .row (ccs c q) 0) (hW : W.heap.size ≤ bc) (j : Nat) (hx : ¬ (j : Int) < (c.delays.length : Int)) (y0 y5 y6 y7 y8 y9 y10 : Value) :
    bindO (l36_11010 W y0 (.pointer (some ⟨bc, 0, none⟩)) (.int .i64 (j : Int)) y5 y6 y7 y8 y9 y10 S) (kc W c36 [1, 1, 0, 1, 0] f36) = some (.bool true, S) := by
  have hlt := row_lt g.ok hb
  have hN := g.n; have hL : S.lock ≤ S.c := g.ok.1
  rw [r36_11010]
  simp -implicitDefEqProofs (maxSteps := 1000000) (disch := (refine id ?_; first | ((fail_if_success (with_reducible apply isT_of)); (fail_if_success (first | fail)); first | omega | fail))) only [hb, hx, k36_11010_0, ↓bindV_some, ↓bindO_some, ↓condB_false, bindV_some, bindO_some, ↓condK_B, bin_lss, cell_at, cellOf_row, nth_zero, nth_succ, eq_self, decide_false, Nat.zero_add, reduceCtorEq, ld_22, len_22, fa_26_5]
theorem rrows_loop (g : Gd W S) (c : Cfg) (q : Pl) {bc : Nat} (hb : S.heap bc = .row (ccs c q) 0) (hW : W.heap.size ≤ bc) (svs : List Sv) (hlen : svs.length ≤ 2 ^ 60) (rd : Rd VT W S (.slice q.ad c.delays.length q.cd) svs) (h3 : ∀ s ∈ svs, Rd IT W S (.slice s.a s.n s.c) s.l)
    (y0 y5 y6 y7 y8 y9 y10 : Value) (n : Nat) : ∀ (j : Nat) (hn : n + j = svs.length),
    bindO (l36_11010 W y0 (.pointer (some ⟨bc, 0, none⟩)) (.int .i64 (j : Int)) y5 y6 y7 y8 y9 y10 S) (kc W c36 [1, 1, 0, 1, 0] f36) = some (.bool (!(svs.drop j).any fun s => rowBad c s.l), S) := by
  have hl := slice_len rd
  induction n with
  | zero =>
    intro j hn
    rw [List.drop_eq_nil_of_le (by omega), rr_end g c q hb hW j (by omega)]
    rfl
  | succ n ih =>
    intro j hn
    have hj : j < svs.length := by omega
    have hx : (j : Int) < (c.delays.length : Int) := by omega
    have ih' := ih (j + 1) (by omega)
    obtain ⟨b, o, cp, e, hbS, hr⟩ := rd.at (by omega)
    have eA : q.ad = some ⟨b, o, none⟩ := by injection e
    have e5 := (hr j hj).2 0 (by decide)
    have h3x := h3 svs[j] (List.getElem_mem hj)
    rw [List.drop_eq_getElem_cons hj, List.any_cons]
    rw [show VT.k = 1 from rfl, show VT.cs svs[j] = [.slice svs[j].a svs[j].n svs[j].c] from rfl, Nat.mul_one, Nat.add_zero, nth_zero] at e5
    have hsn := slice_len h3x
    clear hr e
    generalize svs[j] = s at e5 h3x hsn ⊢
    obtain ⟨sa, sn, sc, sl⟩ := s
    dsimp only at e5 h3x hsn ⊢
    by_cases h2 : sn = 2
    · subst h2
      obtain ⟨n0, n1, rfl⟩ : ∃ n0 n1, sl = [n0, n1] := by
        match sl, hsn with
        | [n0, n1], _ => exact ⟨n0, n1, rfl⟩
      obtain ⟨b1, o1, cp1, e1, hbS1, hr1⟩ := h3x.at (by simp)
      have eA1 : sa = some ⟨b1, o1, none⟩ := by injection e1
      subst eA1
      have f0 := (hr1 0 (by simp)).2 0 (by decide)
      have f1 := (hr1 1 (by simp)).2 0 (by decide)
      rw [show IT.k = 1 from rfl, Nat.zero_mul, Nat.add_zero] at f0
      rw [show IT.k = 1 from rfl, Nat.one_mul] at f1
      rw [rr_step g c q hb hW b o eA j hx (by omega) b1 o1 sc e5 n0 n1 f0 f1, ih']
      cases rowBad c [n0, n1] <;> rfl
    · have hr2 : rowBad c sl = true := by simp [rowBad]; omega
      rw [rr_bad g c q hb hW b o eA j hx (by omega) sa sn sc e5 (by omega), hr2]
      rfl
theorem RRows_eq (g : Gd W S) (c : Cfg) (q : Pl) (h : CfgAt W S c q) : cw W 36 #[cvl c q] S = some (.bool (rowsOk c), S) := by
  rw [eq36]
  have hN := g.n; have hL : S.lock ≤ S.c := g.ok.1
  have hq := h.vlt
  have g1 := g.new (o := .row [Value.int .i64 c.hosts, .int .i64 c.cycle, .int .i64 c.delay, .int .i64 c.window, .int .i64 c.prec, .slice q.ad c.delays.length q.cd, .slice q.ae c.entries.length q.ce, .slice q.al c.links.length q.cl, .int .i64 c.queue] 0) (objLt_mono (Nat.le_succ _) (cvl_obj hq))
  have hq1 : vlt (S.c + 1) (cvl c q) = true := vlt_mono (by omega) hq
  have ha : [cvl c q].all (vlt S.c) = true := by rw [List.all_cons, hq]; rfl
  have lw : Low S (S.new (.row [Value.int .i64 c.hosts, .int .i64 c.cycle, .int .i64 c.delay, .int .i64 c.window, .int .i64 c.prec, .slice q.ad c.delays.length q.cd, .slice q.ae c.entries.length q.ce, .slice q.al c.links.length q.cl, .int .i64 c.queue] 0)) := Low.new (Low.rfl' S) _
  obtain ⟨svs, h1, h2, h3⟩ := (h.low lw).del
  have el := slice_len h1
  have ll := fun y0 y5 y6 y7 y8 y9 y10 => rrows_loop g1 c q (new_self _) hN svs (by have := h.ld; omega) h1 h3 y0 y5 y6 y7 y8 y9 y10 svs.length 0 rfl
  rw [cast0] at ll
  unfold rowsOk
  by_cases hl : (c.delays.length : Int) = c.hosts
  · have ea : (svs.drop 0).any (fun s => rowBad c s.l) = c.delays.any (rowBad c) := by rw [List.drop_zero, any_map (fun s : Sv => s.l) (rowBad c), h2]
    rw [ea] at ll
    rw [decide_eq_true hl]
    simp -implicitDefEqProofs (maxSteps := 1000000) (disch := (refine id ?_; first | ((fail_if_success (with_reducible apply isT_of)); (fail_if_success (first | fail)); first | omega | (with_reducible apply Gd.cl; with_reducible assumption) | (simp only [flatR_int, flatR_bool, flatR_string, flatR_tuple, flatR_agg, flat_int, flat_bool, flat_string, flat_agg, flat0_int, flat0_bool, flat0_string, List.all_cons, List.all_nil, Bool.and_self, Bool.and_true, Bool.true_and]; done) | fail))) only [hl, ll, gcR_some, ↓bindV_some, ↓bindS_some, ↓condB_false, bindV_some, bindS_some, ↓condK_B, bin_neq, box_agg, cell_at, cellOf_row, nth_zero, nth_succ, eq_self, new_at, decide_true, Bool.not_true, Nat.zero_add, Bool.true_and, reduceCtorEq, ld_3, ld_22, len_22, fa_26_0, fa_26_5]
  · rw [decide_eq_false hl]
    simp -implicitDefEqProofs (maxSteps := 1000000) (disch := (refine id ?_; first | ((fail_if_success (with_reducible apply isT_of)); (fail_if_success (first | fail)); first | omega | (with_reducible apply Gd.cl; with_reducible assumption) | (simp only [flatR_int, flatR_bool, flatR_string, flatR_tuple, flatR_agg, flat_int, flat_bool, flat_string, flat_agg, flat0_int, flat0_bool, flat0_string, List.all_cons, List.all_nil, Bool.and_self, Bool.and_true, Bool.true_and]; done) | fail))) only [hl, gcR_some, ↓bindV_some, ↓bindS_some, ↓condB_true, bindV_some, bindS_some, ↓condK_B, bin_neq, box_agg, cell_at, cellOf_row, nth_zero, nth_succ, eq_self, new_at, decide_false, Bool.not_false, Nat.zero_add, Bool.false_and, ld_3, ld_22, len_22, fa_26_0, fa_26_5]
end
end Go.Proofs.Ytogcdgdnjinjkaa.F
end
