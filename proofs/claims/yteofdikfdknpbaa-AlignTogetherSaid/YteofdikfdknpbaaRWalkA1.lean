/- What the functions of this chapter compute, in memories that are closed; conditions stand in each theorem. Laid together by a program for this claim. -/
import Derived.OpenShut
import Derived.Test.YteofdikfdknpbaaRWalkA0
import Derived.Test.YteofdikfdknpbaaREngine1
set_option linter.unusedVariables false
set_option linter.unusedSimpArgs false
section
namespace Go.Proofs.Yteofdikfdknpbaa.F
open Go Go.Proofs.Yteofdikfdknpbaa.E
set_option linter.unusedVariables false
set_option linter.unusedSimpArgs false
theorem elBytes : Elem p 55 5 (zeroOf p 5) 1 1 := elem_of (by kernel_rfl)
theorem undBytes : p.underlying 55 = some (.slice 5) := Try.underlying55
abbrev u8s (l : List Int) : List Value := l.map (Value.int .u8)
def putI (n : Int) : Nat → List Int
  | 0 => []
  | i + 1 => IntKind.u8.wrap (n.fdiv (2 ^ min (8 * i) 64)) :: putI n i
theorem putI_len (n : Int) : ∀ i, (putI n i).length = i
  | 0 => rfl
  | i + 1 => by rw [putI, List.length_cons, putI_len n i]
section
variable {W : World}
theorem put_loop (n : Int) : ∀ (i : Nat) (hi : i ≤ 8) (S : St) (g : Gd W S) (v : Value) (cs : List Int) (h : Gr S v 1 (u8s cs)) (hs : cs.length + i ≤ 2 ^ 40) (x : Int) (hx : x = i - 1) (y2 y3 y4 y5 y6 y8 y9 y23 : Value) (Q : Value × St → Prop)
    (K : ∀ v' S', Gd W S' → Gr S' v' 1 (u8s (cs ++ putI n i)) → Ext (blkOf v) S S' → (∀ j, j ∈ blkOf v' → j ∈ blkOf v ∨ S.c ≤ j) → Q (v', S')),
    Wp (bindO (l30_1010 W v (.int .u64 n) y2 y3 y4 y5 y6 (.int .i64 x) y8 y9 y23 S) (kc W c30 [1, 0, 1, 0] f30)) Q := by
  intro i
  induction i with
  | zero =>
    intro hi S g v cs h hs x hx y2 y3 y4 y5 y6 y8 y9 y23 Q K
    have hx : ¬ 0 ≤ x := by omega
    have hN := g.n; have hL : S.lock ≤ S.c := g.ok.1
    rw [r30_1010]
    simp -implicitDefEqProofs (maxSteps := 1000000) (disch := (refine id ?_; first | ((first | fail); (first | fail)) | ((fail_if_success (with_reducible apply isT_of)); (fail_if_success (first | fail)); first | (with_reducible refine Low.new ?_ _; (repeat (first | refine Low.upd ?_ (by (first | fail)) _)); done) | (with_reducible refine Low.upd ?_ (by (first | fail)) _; (repeat (first | refine Low.upd ?_ (by (first | fail)) _)); done) | (with_reducible refine Gd.new ?_ (by (simp only [objLt_row, objLt_dead, List.all_cons, List.all_nil, vlt1_int, vlt1_bool, vlt1_string, vlt1_nilp, vlt1_nils, vlt1_ptr, vlt1_sl, vlt1_func, vlt0_ptr, vlt0_sl, vlt0_int, vlt0_bool, vlt0_string, vlt0_nilp, vlt0_nils, vlt_int, vlt_bool, vlt_string, vlt_nilp, vlt_nils, vlt_ptr, vlt_sl, vlt_agg, vlt_func, List.toArray, Bool.and_true, Bool.true_and, Bool.and_self, Bool.and_eq_true, decide_eq_true_eq, and_true, true_and, new_c, upd_c, relock_c] <;> omega)); (repeat (first | refine Gd.upd ?_ (by (first | fail)) (by (simp only [objLt_row, objLt_dead, List.all_cons, List.all_nil, vlt1_int, vlt1_bool, vlt1_string, vlt1_nilp, vlt1_nils, vlt1_ptr, vlt1_sl, vlt1_func, vlt0_ptr, vlt0_sl, vlt0_int, vlt0_bool, vlt0_string, vlt0_nilp, vlt0_nils, vlt_int, vlt_bool, vlt_string, vlt_nilp, vlt_nils, vlt_ptr, vlt_sl, vlt_agg, vlt_func, List.toArray, Bool.and_true, Bool.true_and, Bool.and_self, Bool.and_eq_true, decide_eq_true_eq, and_true, true_and, new_c, upd_c, relock_c] <;> omega)) )); done) | (with_reducible refine Gd.upd ?_ (by (first | fail)) (by (simp only [objLt_row, objLt_dead, List.all_cons, List.all_nil, vlt1_int, vlt1_bool, vlt1_string, vlt1_nilp, vlt1_nils, vlt1_ptr, vlt1_sl, vlt1_func, vlt0_ptr, vlt0_sl, vlt0_int, vlt0_bool, vlt0_string, vlt0_nilp, vlt0_nils, vlt_int, vlt_bool, vlt_string, vlt_nilp, vlt_nils, vlt_ptr, vlt_sl, vlt_agg, vlt_func, List.toArray, Bool.and_true, Bool.true_and, Bool.and_self, Bool.and_eq_true, decide_eq_true_eq, and_true, true_and, new_c, upd_c, relock_c] <;> omega)); (repeat (first | refine Gd.upd ?_ (by (first | fail)) (by (simp only [objLt_row, objLt_dead, List.all_cons, List.all_nil, vlt1_int, vlt1_bool, vlt1_string, vlt1_nilp, vlt1_nils, vlt1_ptr, vlt1_sl, vlt1_func, vlt0_ptr, vlt0_sl, vlt0_int, vlt0_bool, vlt0_string, vlt0_nilp, vlt0_nils, vlt_int, vlt_bool, vlt_string, vlt_nilp, vlt_nils, vlt_ptr, vlt_sl, vlt_agg, vlt_func, List.toArray, Bool.and_true, Bool.true_and, Bool.and_self, Bool.and_eq_true, decide_eq_true_eq, and_true, true_and, new_c, upd_c, relock_c] <;> omega)) )); done) | (with_reducible refine Gd.relock2 ?_ ?_; rotate_left; simp only [new_c, upd_c, relock_c]; (repeat (first | refine Gd.upd ?_ (by (first | fail)) (by (simp only [objLt_row, objLt_dead, List.all_cons, List.all_nil, vlt1_int, vlt1_bool, vlt1_string, vlt1_nilp, vlt1_nils, vlt1_ptr, vlt1_sl, vlt1_func, vlt0_ptr, vlt0_sl, vlt0_int, vlt0_bool, vlt0_string, vlt0_nilp, vlt0_nils, vlt_int, vlt_bool, vlt_string, vlt_nilp, vlt_nils, vlt_ptr, vlt_sl, vlt_agg, vlt_func, List.toArray, Bool.and_true, Bool.true_and, Bool.and_self, Bool.and_eq_true, decide_eq_true_eq, and_true, true_and, new_c, upd_c, relock_c] <;> omega)) )); done) | (with_reducible refine nat_eq_id ?_; first | fail) | (with_reducible refine Rd.low (by with_reducible assumption) ?_; (repeat (first | refine Low.upd ?_ (by (first | fail)) _)); done) | ((first | fail); simp only [IsT, decide_eq_true_eq, Bool.and_eq_true, Bool.or_eq_true, Bool.not_eq_true', decide_eq_false_iff_not] at *; omega) | fail))) only [hx, k30_1010_0, ↓bindV_some, ↓bindS_some, ↓bindO_some, ↓condB_true, ↓condB_false, bindV_some, bindS_some, bindO_some, wrap64, wrapu64, ↓condK_B, bin_sub, bin_mul, bin_geq, eq_self, bindO_bindS, decide_true, decide_false, Nat.reduceAdd, Nat.reduceSub, Nat.reduceMul, Nat.reduceLeDiff, Nat.reduceLT, Nat.reduceEqDiff, Int.reduceLE, Int.reduceLT, Int.reduceAdd, Int.reduceNeg, Int.reduceEq, Int.reduceSub, Int.reduceMul, Int.reduceToNat, Nat.mul_one, ↓reduceIte, reduceCtorEq, bs_55_1_0, cv_3_91, cv_78_5]
    exact .ret (K v S g (by rw [putI, List.append_nil]; exact h) (Ext.refl g.ok) fun j hj => .inl hj)
  | succ i ih =>
    intro hi S g v cs h hs x hx y2 y3 y4 y5 y6 y8 y9 y23 Q K
    have hx0 : 0 ≤ x := by omega
    have e1 : IntKind.u64.wrap (IntKind.i64.wrap (8 * x)) = ((8 * i : Nat) : Int) := by rw [wrap64 (by omega) (by omega), wrapu64 (by omega) (by omega)]; omega
    have e0 : IntKind.i64.wrap (8 * x) = 8 * x := wrap64 (by omega) (by omega)
    rw [e0] at e1
    have e2 : aBin p .shr 78 (.int .u64 n) (.int .u64 ((8 * i : Nat) : Int)) = some (.int .u64 (n.fdiv (2 ^ min (8 * i) 64))) := by
      rw [bin_shr _ _ _ _ _ (by omega)]; rfl
    have e3 : IntKind.i64.wrap (x - 1) = x - 1 := wrap64 (by omega) (by omega)
    have hN := g.n; have hL : S.lock ≤ S.c := g.ok.1
    rw [r30_1010]
    simp -implicitDefEqProofs (maxSteps := 1000000) (disch := (refine id ?_; first | ((first | fail); (first | fail)) | ((fail_if_success (with_reducible apply isT_of)); (fail_if_success (first | fail)); first | (with_reducible refine Low.new ?_ _; (repeat (first | refine Low.upd ?_ (by (first | fail)) _)); done) | (with_reducible refine Low.upd ?_ (by (first | fail)) _; (repeat (first | refine Low.upd ?_ (by (first | fail)) _)); done) | (with_reducible refine Gd.new ?_ (by (simp only [objLt_row, objLt_dead, List.all_cons, List.all_nil, vlt1_int, vlt1_bool, vlt1_string, vlt1_nilp, vlt1_nils, vlt1_ptr, vlt1_sl, vlt1_func, vlt0_ptr, vlt0_sl, vlt0_int, vlt0_bool, vlt0_string, vlt0_nilp, vlt0_nils, vlt_int, vlt_bool, vlt_string, vlt_nilp, vlt_nils, vlt_ptr, vlt_sl, vlt_agg, vlt_func, List.toArray, Bool.and_true, Bool.true_and, Bool.and_self, Bool.and_eq_true, decide_eq_true_eq, and_true, true_and, new_c, upd_c, relock_c] <;> omega)); (repeat (first | refine Gd.upd ?_ (by (first | fail)) (by (simp only [objLt_row, objLt_dead, List.all_cons, List.all_nil, vlt1_int, vlt1_bool, vlt1_string, vlt1_nilp, vlt1_nils, vlt1_ptr, vlt1_sl, vlt1_func, vlt0_ptr, vlt0_sl, vlt0_int, vlt0_bool, vlt0_string, vlt0_nilp, vlt0_nils, vlt_int, vlt_bool, vlt_string, vlt_nilp, vlt_nils, vlt_ptr, vlt_sl, vlt_agg, vlt_func, List.toArray, Bool.and_true, Bool.true_and, Bool.and_self, Bool.and_eq_true, decide_eq_true_eq, and_true, true_and, new_c, upd_c, relock_c] <;> omega)) )); done) | (with_reducible refine Gd.upd ?_ (by (first | fail)) (by (simp only [objLt_row, objLt_dead, List.all_cons, List.all_nil, vlt1_int, vlt1_bool, vlt1_string, vlt1_nilp, vlt1_nils, vlt1_ptr, vlt1_sl, vlt1_func, vlt0_ptr, vlt0_sl, vlt0_int, vlt0_bool, vlt0_string, vlt0_nilp, vlt0_nils, vlt_int, vlt_bool, vlt_string, vlt_nilp, vlt_nils, vlt_ptr, vlt_sl, vlt_agg, vlt_func, List.toArray, Bool.and_true, Bool.true_and, Bool.and_self, Bool.and_eq_true, decide_eq_true_eq, and_true, true_and, new_c, upd_c, relock_c] <;> omega)); (repeat (first | refine Gd.upd ?_ (by (first | fail)) (by (simp only [objLt_row, objLt_dead, List.all_cons, List.all_nil, vlt1_int, vlt1_bool, vlt1_string, vlt1_nilp, vlt1_nils, vlt1_ptr, vlt1_sl, vlt1_func, vlt0_ptr, vlt0_sl, vlt0_int, vlt0_bool, vlt0_string, vlt0_nilp, vlt0_nils, vlt_int, vlt_bool, vlt_string, vlt_nilp, vlt_nils, vlt_ptr, vlt_sl, vlt_agg, vlt_func, List.toArray, Bool.and_true, Bool.true_and, Bool.and_self, Bool.and_eq_true, decide_eq_true_eq, and_true, true_and, new_c, upd_c, relock_c] <;> omega)) )); done) | (with_reducible refine Gd.relock2 ?_ ?_; rotate_left; simp only [new_c, upd_c, relock_c]; (repeat (first | refine Gd.upd ?_ (by (first | fail)) (by (simp only [objLt_row, objLt_dead, List.all_cons, List.all_nil, vlt1_int, vlt1_bool, vlt1_string, vlt1_nilp, vlt1_nils, vlt1_ptr, vlt1_sl, vlt1_func, vlt0_ptr, vlt0_sl, vlt0_int, vlt0_bool, vlt0_string, vlt0_nilp, vlt0_nils, vlt_int, vlt_bool, vlt_string, vlt_nilp, vlt_nils, vlt_ptr, vlt_sl, vlt_agg, vlt_func, List.toArray, Bool.and_true, Bool.true_and, Bool.and_self, Bool.and_eq_true, decide_eq_true_eq, and_true, true_and, new_c, upd_c, relock_c] <;> omega)) )); done) | (with_reducible refine nat_eq_id ?_; first | fail) | (with_reducible refine Rd.low (by with_reducible assumption) ?_; (repeat (first | refine Low.upd ?_ (by (first | fail)) _)); done) | ((first | fail); simp only [IsT, decide_eq_true_eq, Bool.and_eq_true, Bool.or_eq_true, Bool.not_eq_true', decide_eq_false_iff_not] at *; omega) | fail))) only [hx0, e0, e1, e2, e3, bindO_bindS, ↓bindV_some, ↓bindS_some, ↓bindO_some, ↓condB_true, ↓condB_false, bindV_some, bindS_some, bindO_some, wrap64, wrapu64, ↓condK_B, bin_sub, bin_mul, bin_geq, eq_self, bindO_bindS, decide_true, decide_false, Nat.reduceAdd, Nat.reduceSub, Nat.reduceMul, Nat.reduceLeDiff, Nat.reduceLT, Nat.reduceEqDiff, Int.reduceLE, Int.reduceLT, Int.reduceAdd, Int.reduceNeg, Int.reduceEq, Int.reduceSub, Int.reduceMul, Int.reduceToNat, Nat.mul_one, ↓reduceIte, reduceCtorEq, bs_55_1_0, cv_3_91, cv_78_5]
    refine Wp.append (P := p) (g.new rfl) elBytes (h.new g.ok rfl) (src_made undBytes g (l := u8s [IntKind.u8.wrap (n.fdiv (2 ^ min (8 * i) 64))]) rfl (by omega) 0) rfl rfl rfl (len := cs.length) (by simp) (by omega) fun v1 S1 g1 h1 x1 b1 => ?_
    have h1' : Gr S1 v1 1 (u8s (cs ++ [IntKind.u8.wrap (n.fdiv (2 ^ min (8 * i) 64))])) := by unfold u8s at h1 ⊢; rw [List.map_append]; exact h1
    refine ih (by omega) S1 g1 v1 _ h1' (by rw [List.length_append]; show cs.length + 1 + i ≤ _; omega) (x - 1) (by omega) _ _ _ _ _ _ _ _ Q fun v2 S2 g2 h2 x2 b2 => ?_
    rw [List.append_assoc] at h2
    have hc := x1.c
    refine K v2 S2 g2 h2 ((Ext.pre g.ok rfl x1).trans x2 fun j hj hc => ?_) fun j hj => ?_
    · rcases b1 j hj with h | h
      · exact h
      · simp at h; omega
    · rcases b2 j hj with h | h
      · rcases b1 j h with h | h
        · exact .inl h
        · simp at h; omega
      · simp at hc; omega
theorem put_ok {S : St} (g : Gd W S) {v : Value} {cs : List Int} (h : Gr S v 1 (u8s cs)) (n : Int) (i : Nat) (hi : i ≤ 8) (hs : cs.length + i ≤ 2 ^ 40) (x : Int) (hx : x = i) {Q : Value × St → Prop}
    (K : ∀ v' S', Gd W S' → Gr S' v' 1 (u8s (cs ++ putI n i)) → Ext (blkOf v) S S' → (∀ j, j ∈ blkOf v' → j ∈ blkOf v ∨ S.c ≤ j) → Q (v', S')) : Wp (cw W 30 #[v, .int .u64 n, .int .i64 x] S) Q := by
  have e3 : IntKind.i64.wrap (x - 1) = x - 1 := wrap64 (by omega) (by omega)
  rw [eq30]
  have hN := g.n; have hL : S.lock ≤ S.c := g.ok.1
  simp -implicitDefEqProofs (maxSteps := 1000000) (disch := (refine id ?_; first | ((first | fail); (first | fail)) | ((fail_if_success (with_reducible apply isT_of)); (fail_if_success (first | fail)); first | (with_reducible refine Low.new ?_ _; (repeat (first | refine Low.upd ?_ (by (first | fail)) _)); done) | (with_reducible refine Low.upd ?_ (by (first | fail)) _; (repeat (first | refine Low.upd ?_ (by (first | fail)) _)); done) | (with_reducible refine Gd.new ?_ (by (simp only [objLt_row, objLt_dead, List.all_cons, List.all_nil, vlt1_int, vlt1_bool, vlt1_string, vlt1_nilp, vlt1_nils, vlt1_ptr, vlt1_sl, vlt1_func, vlt0_ptr, vlt0_sl, vlt0_int, vlt0_bool, vlt0_string, vlt0_nilp, vlt0_nils, vlt_int, vlt_bool, vlt_string, vlt_nilp, vlt_nils, vlt_ptr, vlt_sl, vlt_agg, vlt_func, List.toArray, Bool.and_true, Bool.true_and, Bool.and_self, Bool.and_eq_true, decide_eq_true_eq, and_true, true_and, new_c, upd_c, relock_c] <;> omega)); (repeat (first | refine Gd.upd ?_ (by (first | fail)) (by (simp only [objLt_row, objLt_dead, List.all_cons, List.all_nil, vlt1_int, vlt1_bool, vlt1_string, vlt1_nilp, vlt1_nils, vlt1_ptr, vlt1_sl, vlt1_func, vlt0_ptr, vlt0_sl, vlt0_int, vlt0_bool, vlt0_string, vlt0_nilp, vlt0_nils, vlt_int, vlt_bool, vlt_string, vlt_nilp, vlt_nils, vlt_ptr, vlt_sl, vlt_agg, vlt_func, List.toArray, Bool.and_true, Bool.true_and, Bool.and_self, Bool.and_eq_true, decide_eq_true_eq, and_true, true_and, new_c, upd_c, relock_c] <;> omega)) )); done) | (with_reducible refine Gd.upd ?_ (by (first | fail)) (by (simp only [objLt_row, objLt_dead, List.all_cons, List.all_nil, vlt1_int, vlt1_bool, vlt1_string, vlt1_nilp, vlt1_nils, vlt1_ptr, vlt1_sl, vlt1_func, vlt0_ptr, vlt0_sl, vlt0_int, vlt0_bool, vlt0_string, vlt0_nilp, vlt0_nils, vlt_int, vlt_bool, vlt_string, vlt_nilp, vlt_nils, vlt_ptr, vlt_sl, vlt_agg, vlt_func, List.toArray, Bool.and_true, Bool.true_and, Bool.and_self, Bool.and_eq_true, decide_eq_true_eq, and_true, true_and, new_c, upd_c, relock_c] <;> omega)); (repeat (first | refine Gd.upd ?_ (by (first | fail)) (by (simp only [objLt_row, objLt_dead, List.all_cons, List.all_nil, vlt1_int, vlt1_bool, vlt1_string, vlt1_nilp, vlt1_nils, vlt1_ptr, vlt1_sl, vlt1_func, vlt0_ptr, vlt0_sl, vlt0_int, vlt0_bool, vlt0_string, vlt0_nilp, vlt0_nils, vlt_int, vlt_bool, vlt_string, vlt_nilp, vlt_nils, vlt_ptr, vlt_sl, vlt_agg, vlt_func, List.toArray, Bool.and_true, Bool.true_and, Bool.and_self, Bool.and_eq_true, decide_eq_true_eq, and_true, true_and, new_c, upd_c, relock_c] <;> omega)) )); done) | (with_reducible refine Gd.relock2 ?_ ?_; rotate_left; simp only [new_c, upd_c, relock_c]; (repeat (first | refine Gd.upd ?_ (by (first | fail)) (by (simp only [objLt_row, objLt_dead, List.all_cons, List.all_nil, vlt1_int, vlt1_bool, vlt1_string, vlt1_nilp, vlt1_nils, vlt1_ptr, vlt1_sl, vlt1_func, vlt0_ptr, vlt0_sl, vlt0_int, vlt0_bool, vlt0_string, vlt0_nilp, vlt0_nils, vlt_int, vlt_bool, vlt_string, vlt_nilp, vlt_nils, vlt_ptr, vlt_sl, vlt_agg, vlt_func, List.toArray, Bool.and_true, Bool.true_and, Bool.and_self, Bool.and_eq_true, decide_eq_true_eq, and_true, true_and, new_c, upd_c, relock_c] <;> omega)) )); done) | (with_reducible refine nat_eq_id ?_; first | fail) | (with_reducible refine Rd.low (by with_reducible assumption) ?_; (repeat (first | refine Low.upd ?_ (by (first | fail)) _)); done) | ((first | fail); simp only [IsT, decide_eq_true_eq, Bool.and_eq_true, Bool.or_eq_true, Bool.not_eq_true', decide_eq_false_iff_not] at *; omega) | fail))) only [e3, ↓bindV_some, bindV_some, wrap64, bin_sub, Nat.reduceAdd, Nat.reduceSub, Nat.reduceMul, Nat.reduceLeDiff, Nat.reduceLT, Nat.reduceEqDiff, Int.reduceLE, Int.reduceLT, Int.reduceAdd, Int.reduceNeg, Int.reduceEq, Int.reduceSub, Int.reduceMul, Int.reduceToNat, ↓reduceIte, reduceCtorEq]
  exact put_loop n i hi S g v cs h hs (x - 1) (by omega) _ _ _ _ _ _ _ _ Q K
def crcBit (r : Int) : Int := if Go.bits .and .u32 r 1 = 1 then Go.bits .xor .u32 (r.fdiv (2 ^ min (1 : Int).toNat IntKind.u32.bits)) 3988292384 else r.fdiv (2 ^ min (1 : Int).toNat IntKind.u32.bits)
def crcBits : Nat → Int → Int
  | 0, r => r
  | m + 1, r => crcBits m (crcBit r)
def crcB : List Int → Int → Int
  | [], r => r
  | b :: bs, r => crcB bs (crcBits 8 (Go.bits .xor .u32 r (IntKind.u32.wrap b)))
def crc (bs : List Int) : Int := Go.bits .xor .u32 IntKind.u32.max (crcB bs 4294967295)
set_option maxRecDepth 100000 in
theorem sum_in {S : St} (z : Int) (hz : 0 ≤ z ∧ z < 4611686018427387904) : ∀ (m : Nat) (r x : Int) (hm : m ≤ 8) (hx : x = 8 - m) (y0 y1 y2 y4 y5 y7 y8 y10 y11 y12 y13 y14 y15 y16 y28 y29 y30 : Value),
    bindO (l52_11010011001110 W y0 y1 y2 (.int .u32 r) y4 y5 y7 y8 (.int .i64 z) y10 y11 y12 y13 y14 y15 y16 (.int .i64 x) y28 y29 y30 S) (rk W c52_11010 [1, 1, 0, 0, 1, 1, 1, 0]) = ((l52_11010 W y0 y1 y2 (.int .u32 (crcBits m r)) y4 y7 y8 (.int .i64 (z + 1)) y29 y30 S)) := by
  have ez : IntKind.i64.wrap (z + 1) = z + 1 := wrap64 (by omega) (by omega)
  intro m
  induction m with
  | zero =>
    intro r x hm hx y0 y1 y2 y4 y5 y7 y8 y10 y11 y12 y13 y14 y15 y16 y28 y29 y30
    have hx : ¬ x < 8 := by omega
    rw [r52_11010011001110]
    simp -implicitDefEqProofs (maxSteps := 1000000) (disch := (refine id ?_; first | ((fail_if_success (with_reducible apply isT_of)); first | (with_reducible refine Low.new ?_ _; (repeat (first | refine Low.upd ?_ (by (first | fail)) _)); done) | (with_reducible refine Low.upd ?_ (by (first | fail)) _; (repeat (first | refine Low.upd ?_ (by (first | fail)) _)); done) | (with_reducible refine Gd.new ?_ (by (simp only [objLt_row, objLt_dead, List.all_cons, List.all_nil, vlt1_int, vlt1_bool, vlt1_string, vlt1_nilp, vlt1_nils, vlt1_ptr, vlt1_sl, vlt1_func, vlt0_ptr, vlt0_sl, vlt0_int, vlt0_bool, vlt0_string, vlt0_nilp, vlt0_nils, vlt_int, vlt_bool, vlt_string, vlt_nilp, vlt_nils, vlt_ptr, vlt_sl, vlt_agg, vlt_func, List.toArray, Bool.and_true, Bool.true_and, Bool.and_self, Bool.and_eq_true, decide_eq_true_eq, and_true, true_and, new_c, upd_c, relock_c] <;> omega)); (repeat (first | refine Gd.upd ?_ (by (first | fail)) (by (simp only [objLt_row, objLt_dead, List.all_cons, List.all_nil, vlt1_int, vlt1_bool, vlt1_string, vlt1_nilp, vlt1_nils, vlt1_ptr, vlt1_sl, vlt1_func, vlt0_ptr, vlt0_sl, vlt0_int, vlt0_bool, vlt0_string, vlt0_nilp, vlt0_nils, vlt_int, vlt_bool, vlt_string, vlt_nilp, vlt_nils, vlt_ptr, vlt_sl, vlt_agg, vlt_func, List.toArray, Bool.and_true, Bool.true_and, Bool.and_self, Bool.and_eq_true, decide_eq_true_eq, and_true, true_and, new_c, upd_c, relock_c] <;> omega)) )); done) | (with_reducible refine Gd.upd ?_ (by (first | fail)) (by (simp only [objLt_row, objLt_dead, List.all_cons, List.all_nil, vlt1_int, vlt1_bool, vlt1_string, vlt1_nilp, vlt1_nils, vlt1_ptr, vlt1_sl, vlt1_func, vlt0_ptr, vlt0_sl, vlt0_int, vlt0_bool, vlt0_string, vlt0_nilp, vlt0_nils, vlt_int, vlt_bool, vlt_string, vlt_nilp, vlt_nils, vlt_ptr, vlt_sl, vlt_agg, vlt_func, List.toArray, Bool.and_true, Bool.true_and, Bool.and_self, Bool.and_eq_true, decide_eq_true_eq, and_true, true_and, new_c, upd_c, relock_c] <;> omega)); (repeat (first | refine Gd.upd ?_ (by (first | fail)) (by (simp only [objLt_row, objLt_dead, List.all_cons, List.all_nil, vlt1_int, vlt1_bool, vlt1_string, vlt1_nilp, vlt1_nils, vlt1_ptr, vlt1_sl, vlt1_func, vlt0_ptr, vlt0_sl, vlt0_int, vlt0_bool, vlt0_string, vlt0_nilp, vlt0_nils, vlt_int, vlt_bool, vlt_string, vlt_nilp, vlt_nils, vlt_ptr, vlt_sl, vlt_agg, vlt_func, List.toArray, Bool.and_true, Bool.true_and, Bool.and_self, Bool.and_eq_true, decide_eq_true_eq, and_true, true_and, new_c, upd_c, relock_c] <;> omega)) )); done) | (with_reducible refine Gd.relock2 ?_ ?_; rotate_left; simp only [new_c, upd_c, relock_c]; (repeat (first | refine Gd.upd ?_ (by (first | fail)) (by (simp only [objLt_row, objLt_dead, List.all_cons, List.all_nil, vlt1_int, vlt1_bool, vlt1_string, vlt1_nilp, vlt1_nils, vlt1_ptr, vlt1_sl, vlt1_func, vlt0_ptr, vlt0_sl, vlt0_int, vlt0_bool, vlt0_string, vlt0_nilp, vlt0_nils, vlt_int, vlt_bool, vlt_string, vlt_nilp, vlt_nils, vlt_ptr, vlt_sl, vlt_agg, vlt_func, List.toArray, Bool.and_true, Bool.true_and, Bool.and_self, Bool.and_eq_true, decide_eq_true_eq, and_true, true_and, new_c, upd_c, relock_c] <;> omega)) )); done) | (with_reducible refine nat_eq_id ?_; first | fail) | (with_reducible refine Rd.low (by with_reducible assumption) ?_; (repeat (first | refine Low.upd ?_ (by (first | fail)) _)); done) | fail))) only [hx, ez, k52_11010011001110_2, ↓bindV_some, ↓bindO_some, ↓condB_true, ↓condB_false, bindV_some, bindO_some, wrap64, ↓condK_B, bin_add, bin_lss, bin_eql, bin_and, bin_xor, eq_self, decide_true, decide_false, Nat.reduceAdd, Nat.reduceSub, Nat.reduceMul, Nat.reduceLeDiff, Nat.reduceLT, Nat.reduceEqDiff, Int.reduceLE, Int.reduceLT, Int.reduceAdd, Int.reduceNeg, Int.reduceEq, Int.reduceSub, Int.reduceMul, Int.reduceToNat, ↓reduceIte, decide_eq_true_eq, reduceCtorEq]
    rfl
  | succ m ih =>
    intro r x hm hx y0 y1 y2 y4 y5 y7 y8 y10 y11 y12 y13 y14 y15 y16 y28 y29 y30
    have hx0 : x < 8 := by omega
    have e3 : IntKind.i64.wrap (x + 1) = x + 1 := wrap64 (by omega) (by omega)
    have e4 : aBin p .shr 27 (.int .u32 r) (.int .u64 1) = some (.int .u32 (r.fdiv (2 ^ min (1 : Int).toNat IntKind.u32.bits))) := bin_shr _ _ _ _ _ (by omega)
    rw [r52_11010011001110]
    by_cases hb : Go.bits .and .u32 r 1 = 1
    · have e5 : crcBits (m + 1) r = crcBits m (Go.bits .xor .u32 (r.fdiv (2 ^ min (1 : Int).toNat IntKind.u32.bits)) 3988292384) := by rw [crcBits, crcBit, if_pos hb]
      rw [e5]
      simp -implicitDefEqProofs (maxSteps := 1000000) (disch := (refine id ?_; first | ((fail_if_success (with_reducible apply isT_of)); first | (with_reducible refine Low.new ?_ _; (repeat (first | refine Low.upd ?_ (by (first | fail)) _)); done) | (with_reducible refine Low.upd ?_ (by (first | fail)) _; (repeat (first | refine Low.upd ?_ (by (first | fail)) _)); done) | (with_reducible refine Gd.new ?_ (by (simp only [objLt_row, objLt_dead, List.all_cons, List.all_nil, vlt1_int, vlt1_bool, vlt1_string, vlt1_nilp, vlt1_nils, vlt1_ptr, vlt1_sl, vlt1_func, vlt0_ptr, vlt0_sl, vlt0_int, vlt0_bool, vlt0_string, vlt0_nilp, vlt0_nils, vlt_int, vlt_bool, vlt_string, vlt_nilp, vlt_nils, vlt_ptr, vlt_sl, vlt_agg, vlt_func, List.toArray, Bool.and_true, Bool.true_and, Bool.and_self, Bool.and_eq_true, decide_eq_true_eq, and_true, true_and, new_c, upd_c, relock_c] <;> omega)); (repeat (first | refine Gd.upd ?_ (by (first | fail)) (by (simp only [objLt_row, objLt_dead, List.all_cons, List.all_nil, vlt1_int, vlt1_bool, vlt1_string, vlt1_nilp, vlt1_nils, vlt1_ptr, vlt1_sl, vlt1_func, vlt0_ptr, vlt0_sl, vlt0_int, vlt0_bool, vlt0_string, vlt0_nilp, vlt0_nils, vlt_int, vlt_bool, vlt_string, vlt_nilp, vlt_nils, vlt_ptr, vlt_sl, vlt_agg, vlt_func, List.toArray, Bool.and_true, Bool.true_and, Bool.and_self, Bool.and_eq_true, decide_eq_true_eq, and_true, true_and, new_c, upd_c, relock_c] <;> omega)) )); done) | (with_reducible refine Gd.upd ?_ (by (first | fail)) (by (simp only [objLt_row, objLt_dead, List.all_cons, List.all_nil, vlt1_int, vlt1_bool, vlt1_string, vlt1_nilp, vlt1_nils, vlt1_ptr, vlt1_sl, vlt1_func, vlt0_ptr, vlt0_sl, vlt0_int, vlt0_bool, vlt0_string, vlt0_nilp, vlt0_nils, vlt_int, vlt_bool, vlt_string, vlt_nilp, vlt_nils, vlt_ptr, vlt_sl, vlt_agg, vlt_func, List.toArray, Bool.and_true, Bool.true_and, Bool.and_self, Bool.and_eq_true, decide_eq_true_eq, and_true, true_and, new_c, upd_c, relock_c] <;> omega)); (repeat (first | refine Gd.upd ?_ (by (first | fail)) (by (simp only [objLt_row, objLt_dead, List.all_cons, List.all_nil, vlt1_int, vlt1_bool, vlt1_string, vlt1_nilp, vlt1_nils, vlt1_ptr, vlt1_sl, vlt1_func, vlt0_ptr, vlt0_sl, vlt0_int, vlt0_bool, vlt0_string, vlt0_nilp, vlt0_nils, vlt_int, vlt_bool, vlt_string, vlt_nilp, vlt_nils, vlt_ptr, vlt_sl, vlt_agg, vlt_func, List.toArray, Bool.and_true, Bool.true_and, Bool.and_self, Bool.and_eq_true, decide_eq_true_eq, and_true, true_and, new_c, upd_c, relock_c] <;> omega)) )); done) | (with_reducible refine Gd.relock2 ?_ ?_; rotate_left; simp only [new_c, upd_c, relock_c]; (repeat (first | refine Gd.upd ?_ (by (first | fail)) (by (simp only [objLt_row, objLt_dead, List.all_cons, List.all_nil, vlt1_int, vlt1_bool, vlt1_string, vlt1_nilp, vlt1_nils, vlt1_ptr, vlt1_sl, vlt1_func, vlt0_ptr, vlt0_sl, vlt0_int, vlt0_bool, vlt0_string, vlt0_nilp, vlt0_nils, vlt_int, vlt_bool, vlt_string, vlt_nilp, vlt_nils, vlt_ptr, vlt_sl, vlt_agg, vlt_func, List.toArray, Bool.and_true, Bool.true_and, Bool.and_self, Bool.and_eq_true, decide_eq_true_eq, and_true, true_and, new_c, upd_c, relock_c] <;> omega)) )); done) | (with_reducible refine nat_eq_id ?_; first | fail) | (with_reducible refine Rd.low (by with_reducible assumption) ?_; (repeat (first | refine Low.upd ?_ (by (first | fail)) _)); done) | fail))) only [hx0, e3, e4, hb, ↓bindV_some, ↓bindO_some, ↓condB_true, ↓condB_false, bindV_some, bindO_some, wrap64, ↓condK_B, bin_add, bin_lss, bin_eql, bin_and, bin_xor, eq_self, decide_true, decide_false, Nat.reduceAdd, Nat.reduceSub, Nat.reduceMul, Nat.reduceLeDiff, Nat.reduceLT, Nat.reduceEqDiff, Int.reduceLE, Int.reduceLT, Int.reduceAdd, Int.reduceNeg, Int.reduceEq, Int.reduceSub, Int.reduceMul, Int.reduceToNat, ↓reduceIte, decide_eq_true_eq, reduceCtorEq]
      exact ih _ (x + 1) (by omega) (by omega) _ _ _ _ _ _ _ _ _ _ _ _ _ _ _ _ _
    · have e5 : crcBits (m + 1) r = crcBits m (r.fdiv (2 ^ min (1 : Int).toNat IntKind.u32.bits)) := by rw [crcBits, crcBit, if_neg hb]
      rw [e5]
      simp -implicitDefEqProofs (maxSteps := 1000000) (disch := (refine id ?_; first | ((fail_if_success (with_reducible apply isT_of)); first | (with_reducible refine Low.new ?_ _; (repeat (first | refine Low.upd ?_ (by (first | fail)) _)); done) | (with_reducible refine Low.upd ?_ (by (first | fail)) _; (repeat (first | refine Low.upd ?_ (by (first | fail)) _)); done) | (with_reducible refine Gd.new ?_ (by (simp only [objLt_row, objLt_dead, List.all_cons, List.all_nil, vlt1_int, vlt1_bool, vlt1_string, vlt1_nilp, vlt1_nils, vlt1_ptr, vlt1_sl, vlt1_func, vlt0_ptr, vlt0_sl, vlt0_int, vlt0_bool, vlt0_string, vlt0_nilp, vlt0_nils, vlt_int, vlt_bool, vlt_string, vlt_nilp, vlt_nils, vlt_ptr, vlt_sl, vlt_agg, vlt_func, List.toArray, Bool.and_true, Bool.true_and, Bool.and_self, Bool.and_eq_true, decide_eq_true_eq, and_true, true_and, new_c, upd_c, relock_c] <;> omega)); (repeat (first | refine Gd.upd ?_ (by (first | fail)) (by (simp only [objLt_row, objLt_dead, List.all_cons, List.all_nil, vlt1_int, vlt1_bool, vlt1_string, vlt1_nilp, vlt1_nils, vlt1_ptr, vlt1_sl, vlt1_func, vlt0_ptr, vlt0_sl, vlt0_int, vlt0_bool, vlt0_string, vlt0_nilp, vlt0_nils, vlt_int, vlt_bool, vlt_string, vlt_nilp, vlt_nils, vlt_ptr, vlt_sl, vlt_agg, vlt_func, List.toArray, Bool.and_true, Bool.true_and, Bool.and_self, Bool.and_eq_true, decide_eq_true_eq, and_true, true_and, new_c, upd_c, relock_c] <;> omega)) )); done) | (with_reducible refine Gd.upd ?_ (by (first | fail)) (by (simp only [objLt_row, objLt_dead, List.all_cons, List.all_nil, vlt1_int, vlt1_bool, vlt1_string, vlt1_nilp, vlt1_nils, vlt1_ptr, vlt1_sl, vlt1_func, vlt0_ptr, vlt0_sl, vlt0_int, vlt0_bool, vlt0_string, vlt0_nilp, vlt0_nils, vlt_int, vlt_bool, vlt_string, vlt_nilp, vlt_nils, vlt_ptr, vlt_sl, vlt_agg, vlt_func, List.toArray, Bool.and_true, Bool.true_and, Bool.and_self, Bool.and_eq_true, decide_eq_true_eq, and_true, true_and, new_c, upd_c, relock_c] <;> omega)); (repeat (first | refine Gd.upd ?_ (by (first | fail)) (by (simp only [objLt_row, objLt_dead, List.all_cons, List.all_nil, vlt1_int, vlt1_bool, vlt1_string, vlt1_nilp, vlt1_nils, vlt1_ptr, vlt1_sl, vlt1_func, vlt0_ptr, vlt0_sl, vlt0_int, vlt0_bool, vlt0_string, vlt0_nilp, vlt0_nils, vlt_int, vlt_bool, vlt_string, vlt_nilp, vlt_nils, vlt_ptr, vlt_sl, vlt_agg, vlt_func, List.toArray, Bool.and_true, Bool.true_and, Bool.and_self, Bool.and_eq_true, decide_eq_true_eq, and_true, true_and, new_c, upd_c, relock_c] <;> omega)) )); done) | (with_reducible refine Gd.relock2 ?_ ?_; rotate_left; simp only [new_c, upd_c, relock_c]; (repeat (first | refine Gd.upd ?_ (by (first | fail)) (by (simp only [objLt_row, objLt_dead, List.all_cons, List.all_nil, vlt1_int, vlt1_bool, vlt1_string, vlt1_nilp, vlt1_nils, vlt1_ptr, vlt1_sl, vlt1_func, vlt0_ptr, vlt0_sl, vlt0_int, vlt0_bool, vlt0_string, vlt0_nilp, vlt0_nils, vlt_int, vlt_bool, vlt_string, vlt_nilp, vlt_nils, vlt_ptr, vlt_sl, vlt_agg, vlt_func, List.toArray, Bool.and_true, Bool.true_and, Bool.and_self, Bool.and_eq_true, decide_eq_true_eq, and_true, true_and, new_c, upd_c, relock_c] <;> omega)) )); done) | (with_reducible refine nat_eq_id ?_; first | fail) | (with_reducible refine Rd.low (by with_reducible assumption) ?_; (repeat (first | refine Low.upd ?_ (by (first | fail)) _)); done) | fail))) only [hx0, e3, e4, hb, ↓bindV_some, ↓bindO_some, ↓condB_true, ↓condB_false, bindV_some, bindO_some, wrap64, ↓condK_B, bin_add, bin_lss, bin_eql, bin_and, bin_xor, eq_self, decide_true, decide_false, Nat.reduceAdd, Nat.reduceSub, Nat.reduceMul, Nat.reduceLeDiff, Nat.reduceLT, Nat.reduceEqDiff, Int.reduceLE, Int.reduceLT, Int.reduceAdd, Int.reduceNeg, Int.reduceEq, Int.reduceSub, Int.reduceMul, Int.reduceToNat, ↓reduceIte, decide_eq_true_eq, reduceCtorEq]
      exact ih _ (x + 1) (by omega) (by omega) _ _ _ _ _ _ _ _ _ _ _ _ _ _ _ _ _
set_option maxRecDepth 100000 in
theorem sum_loop (b o c : Nat) (bs : List Int) (hlen : bs.length ≤ 2 ^ 40) (S : St) (g : Gd W S) (hr : ∀ j, (hj : j < bs.length) → S.cell W ⟨b, o + j, none⟩ = some (.int .u8 bs[j])) : ∀ (m j : Nat) (hm : m + j = bs.length) (r x : Int) (hx : x = j) (y0 y1 y2 y4 y29 y30 : Value),
    (bindO (l52_11010 W y0 y1 y2 (.int .u32 r) y4 (.slice (some ⟨b, o, none⟩) bs.length c) (.int .i64 bs.length) (.int .i64 x) y29 y30 S) (kc W c52 [1, 1, 0, 1, 0] f52)) = some (.int .u32 (Go.bits .xor .u32 IntKind.u32.max (crcB (bs.drop j) r)), S) := by
  intro m
  induction m with
  | zero =>
    intro j hm r x hx y0 y1 y2 y4 y29 y30
    have hx0 : ¬ x < bs.length := by omega
    rw [List.drop_eq_nil_of_le (by omega), crcB]
    have hN := g.n; have hL : S.lock ≤ S.c := g.ok.1
    rw [r52_11010]
    simp -implicitDefEqProofs (maxSteps := 1000000) (disch := (refine id ?_; first | ((first | fail); (first | fail)) | ((fail_if_success (with_reducible apply isT_of)); (fail_if_success (first | fail)); first | omega | (with_reducible refine Low.new ?_ _; (repeat (first | refine Low.upd ?_ (by (first | omega )) _)); done) | (with_reducible refine Low.upd ?_ (by (first | omega )) _; (repeat (first | refine Low.upd ?_ (by (first | omega )) _)); done) | (with_reducible refine Gd.new ?_ (by (simp only [objLt_row, objLt_dead, List.all_cons, List.all_nil, vlt1_int, vlt1_bool, vlt1_string, vlt1_nilp, vlt1_nils, vlt1_ptr, vlt1_sl, vlt1_func, vlt0_ptr, vlt0_sl, vlt0_int, vlt0_bool, vlt0_string, vlt0_nilp, vlt0_nils, vlt_int, vlt_bool, vlt_string, vlt_nilp, vlt_nils, vlt_ptr, vlt_sl, vlt_agg, vlt_func, List.toArray, Bool.and_true, Bool.true_and, Bool.and_self, Bool.and_eq_true, decide_eq_true_eq, and_true, true_and, new_c, upd_c, relock_c] <;> omega)); (repeat (first | refine Gd.upd ?_ (by (first | omega )) (by (simp only [objLt_row, objLt_dead, List.all_cons, List.all_nil, vlt1_int, vlt1_bool, vlt1_string, vlt1_nilp, vlt1_nils, vlt1_ptr, vlt1_sl, vlt1_func, vlt0_ptr, vlt0_sl, vlt0_int, vlt0_bool, vlt0_string, vlt0_nilp, vlt0_nils, vlt_int, vlt_bool, vlt_string, vlt_nilp, vlt_nils, vlt_ptr, vlt_sl, vlt_agg, vlt_func, List.toArray, Bool.and_true, Bool.true_and, Bool.and_self, Bool.and_eq_true, decide_eq_true_eq, and_true, true_and, new_c, upd_c, relock_c] <;> omega)) )); done) | (with_reducible refine Gd.upd ?_ (by (first | omega )) (by (simp only [objLt_row, objLt_dead, List.all_cons, List.all_nil, vlt1_int, vlt1_bool, vlt1_string, vlt1_nilp, vlt1_nils, vlt1_ptr, vlt1_sl, vlt1_func, vlt0_ptr, vlt0_sl, vlt0_int, vlt0_bool, vlt0_string, vlt0_nilp, vlt0_nils, vlt_int, vlt_bool, vlt_string, vlt_nilp, vlt_nils, vlt_ptr, vlt_sl, vlt_agg, vlt_func, List.toArray, Bool.and_true, Bool.true_and, Bool.and_self, Bool.and_eq_true, decide_eq_true_eq, and_true, true_and, new_c, upd_c, relock_c] <;> omega)); (repeat (first | refine Gd.upd ?_ (by (first | omega )) (by (simp only [objLt_row, objLt_dead, List.all_cons, List.all_nil, vlt1_int, vlt1_bool, vlt1_string, vlt1_nilp, vlt1_nils, vlt1_ptr, vlt1_sl, vlt1_func, vlt0_ptr, vlt0_sl, vlt0_int, vlt0_bool, vlt0_string, vlt0_nilp, vlt0_nils, vlt_int, vlt_bool, vlt_string, vlt_nilp, vlt_nils, vlt_ptr, vlt_sl, vlt_agg, vlt_func, List.toArray, Bool.and_true, Bool.true_and, Bool.and_self, Bool.and_eq_true, decide_eq_true_eq, and_true, true_and, new_c, upd_c, relock_c] <;> omega)) )); done) | (with_reducible refine Gd.relock2 ?_ ?_; rotate_left; simp only [new_c, upd_c, relock_c]; (repeat (first | refine Gd.upd ?_ (by (first | omega )) (by (simp only [objLt_row, objLt_dead, List.all_cons, List.all_nil, vlt1_int, vlt1_bool, vlt1_string, vlt1_nilp, vlt1_nils, vlt1_ptr, vlt1_sl, vlt1_func, vlt0_ptr, vlt0_sl, vlt0_int, vlt0_bool, vlt0_string, vlt0_nilp, vlt0_nils, vlt_int, vlt_bool, vlt_string, vlt_nilp, vlt_nils, vlt_ptr, vlt_sl, vlt_agg, vlt_func, List.toArray, Bool.and_true, Bool.true_and, Bool.and_self, Bool.and_eq_true, decide_eq_true_eq, and_true, true_and, new_c, upd_c, relock_c] <;> omega)) )); done) | (with_reducible refine nat_eq_id ?_; first | fail) | (with_reducible refine Rd.low (by with_reducible assumption) ?_; (repeat (first | refine Low.upd ?_ (by (first | omega )) _)); done) | ((first | fail); simp only [IsT, decide_eq_true_eq, Bool.and_eq_true, Bool.or_eq_true, Bool.not_eq_true', decide_eq_false_iff_not] at *; omega) | fail))) only [hx0, k52_11010_0, ↓bindV_some, ↓bindS_some, ↓bindO_some, ↓condB_true, ↓condB_false, bindV_some, bindS_some, bindO_some, ↓condK_B, bin_lss, bin_xor, un_compl32, eq_self, decide_true, decide_false, Nat.reduceAdd, Nat.reduceSub, Nat.reduceMul, Nat.reduceLeDiff, Nat.reduceLT, Nat.reduceEqDiff, Int.reduceLE, Int.reduceLT, Int.reduceAdd, Int.reduceNeg, Int.reduceEq, Int.reduceSub, Int.reduceMul, Int.reduceToNat, Nat.mul_one, ↓reduceIte, reduceCtorEq, ld_5, ix_55, cv_5_27]
  | succ m ih =>
    intro j hm r x hx y0 y1 y2 y4 y29 y30
    have hx0 : x < bs.length := by omega
    have e4 : x.toNat = j := by omega
    have e5 := hr j (by omega)
    have hN := g.n; have hL : S.lock ≤ S.c := g.ok.1
    rw [r52_11010]
    simp -implicitDefEqProofs (maxSteps := 1000000) (disch := (refine id ?_; first | ((first | fail); (first | fail)) | ((fail_if_success (with_reducible apply isT_of)); (fail_if_success (first | fail)); first | omega | (with_reducible refine Low.new ?_ _; (repeat (first | refine Low.upd ?_ (by (first | omega )) _)); done) | (with_reducible refine Low.upd ?_ (by (first | omega )) _; (repeat (first | refine Low.upd ?_ (by (first | omega )) _)); done) | (with_reducible refine Gd.new ?_ (by (simp only [objLt_row, objLt_dead, List.all_cons, List.all_nil, vlt1_int, vlt1_bool, vlt1_string, vlt1_nilp, vlt1_nils, vlt1_ptr, vlt1_sl, vlt1_func, vlt0_ptr, vlt0_sl, vlt0_int, vlt0_bool, vlt0_string, vlt0_nilp, vlt0_nils, vlt_int, vlt_bool, vlt_string, vlt_nilp, vlt_nils, vlt_ptr, vlt_sl, vlt_agg, vlt_func, List.toArray, Bool.and_true, Bool.true_and, Bool.and_self, Bool.and_eq_true, decide_eq_true_eq, and_true, true_and, new_c, upd_c, relock_c] <;> omega)); (repeat (first | refine Gd.upd ?_ (by (first | omega )) (by (simp only [objLt_row, objLt_dead, List.all_cons, List.all_nil, vlt1_int, vlt1_bool, vlt1_string, vlt1_nilp, vlt1_nils, vlt1_ptr, vlt1_sl, vlt1_func, vlt0_ptr, vlt0_sl, vlt0_int, vlt0_bool, vlt0_string, vlt0_nilp, vlt0_nils, vlt_int, vlt_bool, vlt_string, vlt_nilp, vlt_nils, vlt_ptr, vlt_sl, vlt_agg, vlt_func, List.toArray, Bool.and_true, Bool.true_and, Bool.and_self, Bool.and_eq_true, decide_eq_true_eq, and_true, true_and, new_c, upd_c, relock_c] <;> omega)) )); done) | (with_reducible refine Gd.upd ?_ (by (first | omega )) (by (simp only [objLt_row, objLt_dead, List.all_cons, List.all_nil, vlt1_int, vlt1_bool, vlt1_string, vlt1_nilp, vlt1_nils, vlt1_ptr, vlt1_sl, vlt1_func, vlt0_ptr, vlt0_sl, vlt0_int, vlt0_bool, vlt0_string, vlt0_nilp, vlt0_nils, vlt_int, vlt_bool, vlt_string, vlt_nilp, vlt_nils, vlt_ptr, vlt_sl, vlt_agg, vlt_func, List.toArray, Bool.and_true, Bool.true_and, Bool.and_self, Bool.and_eq_true, decide_eq_true_eq, and_true, true_and, new_c, upd_c, relock_c] <;> omega)); (repeat (first | refine Gd.upd ?_ (by (first | omega )) (by (simp only [objLt_row, objLt_dead, List.all_cons, List.all_nil, vlt1_int, vlt1_bool, vlt1_string, vlt1_nilp, vlt1_nils, vlt1_ptr, vlt1_sl, vlt1_func, vlt0_ptr, vlt0_sl, vlt0_int, vlt0_bool, vlt0_string, vlt0_nilp, vlt0_nils, vlt_int, vlt_bool, vlt_string, vlt_nilp, vlt_nils, vlt_ptr, vlt_sl, vlt_agg, vlt_func, List.toArray, Bool.and_true, Bool.true_and, Bool.and_self, Bool.and_eq_true, decide_eq_true_eq, and_true, true_and, new_c, upd_c, relock_c] <;> omega)) )); done) | (with_reducible refine Gd.relock2 ?_ ?_; rotate_left; simp only [new_c, upd_c, relock_c]; (repeat (first | refine Gd.upd ?_ (by (first | omega )) (by (simp only [objLt_row, objLt_dead, List.all_cons, List.all_nil, vlt1_int, vlt1_bool, vlt1_string, vlt1_nilp, vlt1_nils, vlt1_ptr, vlt1_sl, vlt1_func, vlt0_ptr, vlt0_sl, vlt0_int, vlt0_bool, vlt0_string, vlt0_nilp, vlt0_nils, vlt_int, vlt_bool, vlt_string, vlt_nilp, vlt_nils, vlt_ptr, vlt_sl, vlt_agg, vlt_func, List.toArray, Bool.and_true, Bool.true_and, Bool.and_self, Bool.and_eq_true, decide_eq_true_eq, and_true, true_and, new_c, upd_c, relock_c] <;> omega)) )); done) | (with_reducible refine nat_eq_id ?_; first | fail) | (with_reducible refine Rd.low (by with_reducible assumption) ?_; (repeat (first | refine Low.upd ?_ (by (first | omega )) _)); done) | ((first | fail); simp only [IsT, decide_eq_true_eq, Bool.and_eq_true, Bool.or_eq_true, Bool.not_eq_true', decide_eq_false_iff_not] at *; omega) | fail))) only [hx0, e4, Nat.mul_one, e5, sum_in x (by omega) 8 _ 0 (by omega) (by omega), ↓bindV_some, ↓bindS_some, ↓bindO_some, ↓condB_true, ↓condB_false, bindV_some, bindS_some, bindO_some, ↓condK_B, bin_lss, bin_xor, un_compl32, eq_self, decide_true, decide_false, Nat.reduceAdd, Nat.reduceSub, Nat.reduceMul, Nat.reduceLeDiff, Nat.reduceLT, Nat.reduceEqDiff, Int.reduceLE, Int.reduceLT, Int.reduceAdd, Int.reduceNeg, Int.reduceEq, Int.reduceSub, Int.reduceMul, Int.reduceToNat, Nat.mul_one, ↓reduceIte, reduceCtorEq, ld_5, ix_55, cv_5_27]
    rw [List.drop_eq_getElem_cons (by omega), crcB]
    exact ih (j + 1) (by omega) _ (x + 1) (by omega) _ _ _ _ _ _
theorem sum_ok {S : St} (g : Gd W S) {v : Value} {bs : List Int} (h : Gr S v 1 (u8s bs)) (hlen : bs.length ≤ 2 ^ 40) (h0 : 0 < bs.length) : cw W 52 #[v] S = some (.int .u32 (crc bs), S) := by
  obtain ⟨b, o, c, rfl, hW, hg, _⟩ := h.get g (by omega) (n := bs.length) (by rw [List.length_map, Nat.mul_one]) h0
  have hb : b < S.c := h.lt g.ok b (by simp [blkOf])
  have hr : ∀ j, (hj : j < bs.length) → S.cell W ⟨b, o + j, none⟩ = some (.int .u8 bs[j]) := fun j hj => by
    rw [hg j (by rw [List.length_map]; exact hj), List.getElem?_map, List.getElem?_eq_getElem hj]; rfl
  have sl := sum_loop (W := W) b o c bs hlen S g hr bs.length 0 (by omega) 4294967295 0 (by omega)
  rw [List.drop_zero] at sl
  have ha : [Value.slice (some ⟨b, o, none⟩) bs.length c].all (vlt S.c) = true := by simpa using hb
  rw [eq52]
  have hN := g.n; have hL : S.lock ≤ S.c := g.ok.1
  simp -implicitDefEqProofs (maxSteps := 1000000) (disch := (refine id ?_; first | ((fail_if_success (with_reducible apply isT_of)); (fail_if_success (first | fail)); first | omega | (with_reducible apply Gd.cl; with_reducible assumption) | with_reducible exact Low.rfl' _ | (simp only [flatR_int, flatR_bool, flatR_string, flatR_tuple, flatR_agg, flat_int, flat_bool, flat_string, flat_agg, flat0_int, flat0_bool, flat0_string, List.all_cons, List.all_nil, Bool.and_self, Bool.and_true, Bool.true_and]; done) | fail))) only [sl, ha, gcR_some, ↓bindV_some, bindV_some, eq_self, or_false, and_true, List.drop_zero, Bool.and_true, Nat.reduceAdd, Nat.reduceSub, Nat.reduceMul, Nat.reduceLeDiff, Nat.reduceLT, Nat.reduceEqDiff, Int.reduceLE, Int.reduceLT, Int.reduceAdd, Int.reduceNeg, Int.reduceEq, Int.reduceSub, Int.reduceMul, Int.reduceToNat, Nat.mul_one, Bool.or_false, ↓reduceIte, decide_eq_true_eq, reduceCtorEq, len_55]
  rfl
theorem sealed_ok {S : St} (g : Gd W S) {v : Value} {bs : List Int} (h : Gr S v 1 (u8s bs)) (hlen : bs.length + 4 ≤ 2 ^ 40) (h0 : 0 < bs.length) {Q : Value × St → Prop}
    (K : ∀ v' S', Gd W S' → Gr S' v' 1 (u8s (bs ++ putI (IntKind.u64.wrap (crc bs)) 4)) → Ext (blkOf v) S S' → (∀ j, j ∈ blkOf v' → j ∈ blkOf v ∨ S.c ≤ j) → Q (v', S')) : Wp (cw W 31 #[v] S) Q := by
  have e := sum_ok g h (by omega) h0
  rw [eq31]
  have hN := g.n; have hL : S.lock ≤ S.c := g.ok.1
  simp -implicitDefEqProofs (maxSteps := 1000000) (disch := (refine id ?_; first | ((first | fail); (first | fail)) | ((fail_if_success (with_reducible apply isT_of)); (fail_if_success (first | fail)); first | (with_reducible refine Low.new ?_ _; (repeat (first | refine Low.upd ?_ (by (first | fail)) _)); done) | (with_reducible refine Low.upd ?_ (by (first | fail)) _; (repeat (first | refine Low.upd ?_ (by (first | fail)) _)); done) | (with_reducible refine Gd.new ?_ (by (simp only [objLt_row, objLt_dead, List.all_cons, List.all_nil, vlt1_int, vlt1_bool, vlt1_string, vlt1_nilp, vlt1_nils, vlt1_ptr, vlt1_sl, vlt1_func, vlt0_ptr, vlt0_sl, vlt0_int, vlt0_bool, vlt0_string, vlt0_nilp, vlt0_nils, vlt_int, vlt_bool, vlt_string, vlt_nilp, vlt_nils, vlt_ptr, vlt_sl, vlt_agg, vlt_func, List.toArray, Bool.and_true, Bool.true_and, Bool.and_self, Bool.and_eq_true, decide_eq_true_eq, and_true, true_and, new_c, upd_c, relock_c] <;> omega)); (repeat (first | refine Gd.upd ?_ (by (first | fail)) (by (simp only [objLt_row, objLt_dead, List.all_cons, List.all_nil, vlt1_int, vlt1_bool, vlt1_string, vlt1_nilp, vlt1_nils, vlt1_ptr, vlt1_sl, vlt1_func, vlt0_ptr, vlt0_sl, vlt0_int, vlt0_bool, vlt0_string, vlt0_nilp, vlt0_nils, vlt_int, vlt_bool, vlt_string, vlt_nilp, vlt_nils, vlt_ptr, vlt_sl, vlt_agg, vlt_func, List.toArray, Bool.and_true, Bool.true_and, Bool.and_self, Bool.and_eq_true, decide_eq_true_eq, and_true, true_and, new_c, upd_c, relock_c] <;> omega)) )); done) | (with_reducible refine Gd.upd ?_ (by (first | fail)) (by (simp only [objLt_row, objLt_dead, List.all_cons, List.all_nil, vlt1_int, vlt1_bool, vlt1_string, vlt1_nilp, vlt1_nils, vlt1_ptr, vlt1_sl, vlt1_func, vlt0_ptr, vlt0_sl, vlt0_int, vlt0_bool, vlt0_string, vlt0_nilp, vlt0_nils, vlt_int, vlt_bool, vlt_string, vlt_nilp, vlt_nils, vlt_ptr, vlt_sl, vlt_agg, vlt_func, List.toArray, Bool.and_true, Bool.true_and, Bool.and_self, Bool.and_eq_true, decide_eq_true_eq, and_true, true_and, new_c, upd_c, relock_c] <;> omega)); (repeat (first | refine Gd.upd ?_ (by (first | fail)) (by (simp only [objLt_row, objLt_dead, List.all_cons, List.all_nil, vlt1_int, vlt1_bool, vlt1_string, vlt1_nilp, vlt1_nils, vlt1_ptr, vlt1_sl, vlt1_func, vlt0_ptr, vlt0_sl, vlt0_int, vlt0_bool, vlt0_string, vlt0_nilp, vlt0_nils, vlt_int, vlt_bool, vlt_string, vlt_nilp, vlt_nils, vlt_ptr, vlt_sl, vlt_agg, vlt_func, List.toArray, Bool.and_true, Bool.true_and, Bool.and_self, Bool.and_eq_true, decide_eq_true_eq, and_true, true_and, new_c, upd_c, relock_c] <;> omega)) )); done) | (with_reducible refine Gd.relock2 ?_ ?_; rotate_left; simp only [new_c, upd_c, relock_c]; (repeat (first | refine Gd.upd ?_ (by (first | fail)) (by (simp only [objLt_row, objLt_dead, List.all_cons, List.all_nil, vlt1_int, vlt1_bool, vlt1_string, vlt1_nilp, vlt1_nils, vlt1_ptr, vlt1_sl, vlt1_func, vlt0_ptr, vlt0_sl, vlt0_int, vlt0_bool, vlt0_string, vlt0_nilp, vlt0_nils, vlt_int, vlt_bool, vlt_string, vlt_nilp, vlt_nils, vlt_ptr, vlt_sl, vlt_agg, vlt_func, List.toArray, Bool.and_true, Bool.true_and, Bool.and_self, Bool.and_eq_true, decide_eq_true_eq, and_true, true_and, new_c, upd_c, relock_c] <;> omega)) )); done) | (with_reducible refine nat_eq_id ?_; first | fail) | (with_reducible refine Rd.low (by with_reducible assumption) ?_; (repeat (first | refine Low.upd ?_ (by (first | fail)) _)); done) | ((first | fail); simp only [IsT, decide_eq_true_eq, Bool.and_eq_true, Bool.or_eq_true, Bool.not_eq_true', decide_eq_false_iff_not] at *; omega) | fail))) only [e, ↓bindS_some, bindS_some, Nat.reduceAdd, Nat.reduceSub, Nat.reduceMul, Nat.reduceLeDiff, Nat.reduceLT, Nat.reduceEqDiff, Int.reduceLE, Int.reduceLT, Int.reduceAdd, Int.reduceNeg, Int.reduceEq, Int.reduceSub, Int.reduceMul, Int.reduceToNat, ↓reduceIte, reduceCtorEq, call_30, call_52, cv_27_78]
  refine Wp.bS (put_ok g h _ 4 (by omega) (by omega) 4 rfl fun v' S' g' h' x' b' => ?_)
  exact .ret (K v' S' g' h' x' b')
end
end Go.Proofs.Yteofdikfdknpbaa.F
end
section
namespace Go.Proofs.Yteofdikfdknpbaa.F
open Go Go.Proofs.Yteofdikfdknpbaa.E
set_option linter.unusedVariables false
set_option linter.unusedSimpArgs false
section
theorem m2_0 : aBin p .mul 27 (.int .u32 ((2 ^ 0 : Nat) : Int)) (.int .u32 2) = some (.int .u32 ((2 ^ (0 + 1) : Nat) : Int)) := by kernel_rfl
theorem m2_1 : aBin p .mul 27 (.int .u32 ((2 ^ 1 : Nat) : Int)) (.int .u32 2) = some (.int .u32 ((2 ^ (1 + 1) : Nat) : Int)) := by kernel_rfl
theorem m2_2 : aBin p .mul 27 (.int .u32 ((2 ^ 2 : Nat) : Int)) (.int .u32 2) = some (.int .u32 ((2 ^ (2 + 1) : Nat) : Int)) := by kernel_rfl
theorem m2_3 : aBin p .mul 27 (.int .u32 ((2 ^ 3 : Nat) : Int)) (.int .u32 2) = some (.int .u32 ((2 ^ (3 + 1) : Nat) : Int)) := by kernel_rfl
theorem m2_4 : aBin p .mul 27 (.int .u32 ((2 ^ 4 : Nat) : Int)) (.int .u32 2) = some (.int .u32 ((2 ^ (4 + 1) : Nat) : Int)) := by kernel_rfl
theorem m2_5 : aBin p .mul 27 (.int .u32 ((2 ^ 5 : Nat) : Int)) (.int .u32 2) = some (.int .u32 ((2 ^ (5 + 1) : Nat) : Int)) := by kernel_rfl
variable {W : World} {S : St}
set_option maxRecDepth 100000 in
set_option maxRecDepth 100000 in
end
end Go.Proofs.Yteofdikfdknpbaa.F
end
section
namespace Go.Proofs.Yteofdikfdknpbaa.F
open Go Go.Proofs.Yteofdikfdknpbaa.E
set_option linter.unusedVariables false
set_option linter.unusedSimpArgs false
section
variable {W : World} {S : St}
def Mc {α : Type} (T : Enc α) (lo hi : Nat) (S : St) (v : Value) (l : List α) : Prop :=
  (∃ a c, v = .slice a 0 c ∧ l = [] ∧ vlt1 hi v = true) ∨
  ∃ b, v = .slice (some ⟨b, 0, none⟩) l.length l.length ∧ 0 < l.length ∧ lo ≤ b ∧ b < hi ∧ S.heap b = .row (T.fl l) T.k
theorem Mc.mk {α : Type} {T : Enc α} {lo hi : Nat} {S : St} {v : Value} {l : List α} (h : Mc T lo hi S v l) : Mk T lo hi S v l := by
  rcases h with h | ⟨b, e, h0, h1, h2, hr⟩
  · exact .inl h
  · exact .inr ⟨b, _, T.k, e, h0, Nat.le_refl _, h1, h2, hr, .inr rfl⟩
theorem Mc.rd {α : Type} {T : Enc α} {W : World} {lo hi : Nat} {S : St} {v : Value} {l : List α} (h : Mc T lo hi S v l) (g : Gd W S) (hlo : W.heap.size ≤ lo) (hhi : hi ≤ S.c) : Rd T W S v l := h.mk.rd g hlo hhi
theorem Mc.keep {α : Type} {T : Enc α} {lo hi : Nat} {S S' : St} {v : Value} {l : List α} (h : Mc T lo hi S v l) (e : ∀ i, lo ≤ i → i < hi → S'.heap i = S.heap i) : Mc T lo hi S' v l := by
  rcases h with h | ⟨b, e', h0, h1, h2, hr⟩
  · exact .inl h
  · exact .inr ⟨b, e', h0, h1, h2, (e b h1 h2).trans hr⟩
theorem Mc.low {α : Type} {T : Enc α} {lo hi : Nat} {S S' : St} {v : Value} {l : List α} (h : Mc T lo hi S v l) (k : Low S S') (hhi : hi ≤ S.c) : Mc T lo hi S' v l := h.keep fun i _ h2 => k.2.2 i (by omega)
theorem Mc.form {α : Type} {T : Enc α} {lo hi : Nat} {S : St} {v : Value} {l : List α} (h : Mc T lo hi S v l) : ∃ a c, v = .slice a l.length c := h.mk.form
theorem Mc.own {α : Type} {T : Enc α} {lo hi : Nat} {S : St} {v : Value} {l : List α} (h : Mc T lo hi S v l) (h0 : 0 < l.length) (hL : S.lock ≤ lo) : Sl T S v l := by
  rcases h with ⟨_, _, _, rfl, _⟩ | ⟨b, e, _, h1, h2, hr⟩
  · cases h0
  · exact .inr ⟨b, l.length, l.length, [], e, Nat.le_trans hL h1, hr, (fl_len T l).symm, Nat.le_refl _⟩
theorem elc23 : Elem p 23 68 (zeroOf p 68) 4 32 := elem_of (by kernel_rfl)
theorem elc22 : Elem p 22 65 (zeroOf p 65) 1 24 := elem_of (by kernel_rfl)
def nb (s : Sv) : List Nat := if s.n = 0 then [] else blkOf (.slice s.a s.n s.c)
def OwnCfg (lo hi : Nat) (S : St) (c : Cfg) (q : Pl) : Prop :=
  ∃ (svs : List Sv) (m1 m2 m3 : Nat), lo ≤ m1 ∧ m1 ≤ m2 ∧ m2 ≤ m3 ∧ m3 ≤ hi ∧ Mk VT lo m1 S (.slice q.ad c.delays.length q.cd) svs ∧ svs.map (·.l) = c.delays ∧ (∀ s ∈ svs, Mk IT m1 m2 S (.slice s.a s.n s.c) s.l) ∧ svs.Pairwise (fun s t => ∀ i ∈ nb s, i ∉ nb t) ∧ Mc NT m2 m3 S (.slice q.ae c.entries.length q.ce) c.entries ∧ Mk KT m3 hi S (.slice q.al c.links.length q.cl) c.links
structure CfgB (c : Cfg) : Prop where
  ld : c.delays.length * 24 ≤ 140737488351232
  ldd : ∀ l ∈ c.delays, l.length * 8 ≤ 140737488351232
  le : c.entries.length * 32 ≤ 140737488351232
  ll : c.links.length * 32 ≤ 140737488351232
  et : ∀ e ∈ c.entries, e.t < 4294967296
  lt : ∀ e ∈ c.links, e.t < 4294967296
theorem OwnCfg.at {lo hi : Nat} {S : St} {c : Cfg} {q : Pl} (h : OwnCfg lo hi S c q) (g : Gd W S) (hlo : W.heap.size ≤ lo) (hhi : hi ≤ S.c) (b : CfgB c) : CfgAt W S c q := by
  obtain ⟨svs, m1, m2, m3, a1, a2, a3, a4, hd, e, hr, hp, hN, hK⟩ := h
  exact ⟨⟨svs, hd.rd g hlo (by omega), e, fun s hs => (hr s hs).rd g (by omega) (by omega)⟩, hN.rd g (by omega) (by omega), hK.rd g (by omega) hhi, by have := b.ld; omega, fun l hl => by have := b.ldd l hl; omega, by have := b.le; omega, by have := b.ll; omega, b.et, b.lt⟩
theorem OwnCfg.low {lo hi : Nat} {S S' : St} {c : Cfg} {q : Pl} (h : OwnCfg lo hi S c q) (k : Low S S') (hhi : hi ≤ S.c) : OwnCfg lo hi S' c q := by
  obtain ⟨svs, m1, m2, m3, a1, a2, a3, a4, hd, e, hr, hp, hN, hK⟩ := h
  exact ⟨svs, m1, m2, m3, a1, a2, a3, a4, hd.low k (by omega), e, fun s hs => (hr s hs).low k (by omega), hp, hN.low k (by omega), hK.low k hhi⟩
set_option maxRecDepth 100000 in
set_option maxHeartbeats 1000000 in
end
end Go.Proofs.Yteofdikfdknpbaa.F
end
section
namespace Go.Proofs.Yteofdikfdknpbaa.F
open Go Go.Proofs.Yteofdikfdknpbaa.E
set_option linter.unusedVariables false
set_option linter.unusedSimpArgs false
section
variable {W : World} {S : St}
theorem vlt_rd {α : Type} {T : Enc α} {v : Value} {l : List α} (rd : Rd T W S v l) : vlt S.c v = true := by
  obtain ⟨a, c, rfl⟩ := rd.form
  have := rd.vlt
  cases a <;> exact this
end
end Go.Proofs.Yteofdikfdknpbaa.F
end
section
namespace Go.Proofs.Yteofdikfdknpbaa.F
open Go Go.Proofs.Yteofdikfdknpbaa.E
set_option linter.unusedVariables false
set_option linter.unusedSimpArgs false
section
variable {W : World} {S : St}
end
end Go.Proofs.Yteofdikfdknpbaa.F
end
section
namespace Go.Proofs.Yteofdikfdknpbaa.F
open Go Go.Proofs.Yteofdikfdknpbaa.E
set_option linter.unusedVariables false
set_option linter.unusedSimpArgs false
section
variable {W : World} {S : St}
def famD (j : Nat) : List (List Int) := (List.range j).map fun (i : Nat) => [100 * ((i : Int) + 1), 100 * ((i : Int) + 1) + 50]
def famE (h j : Nat) : List En := if 1 < h then (List.range j).map fun (i : Nat) => ⟨((i % h : Nat) : Int), 2 ^ h - 1 - 2 ^ (i % h), 10000 + 50000 * (i : Int), 64 + (i : Int)⟩ else []
def famC (h n : Nat) : Cfg := ⟨(h : Int), 2000000, 2000, 1000, 500, famD h, famE h n, [], 8⟩
theorem Low.ext {S0 S S' : St} {D : List Nat} (h : Low S0 S) (e : Ext D S S') (hd : ∀ i, i ∈ D → S0.c ≤ i) : Low S0 S' :=
  ⟨e.lock.trans h.1, Nat.le_trans h.2.1 e.c, fun i hi => (e.same i (Nat.lt_of_lt_of_le hi h.2.1) (fun hh => by have := hd i hh; omega)).trans (h.2.2 i hi)⟩
theorem famE_succ (h j : Nat) (h1 : 1 < h) : famE h (j + 1) = famE h j ++ [⟨((j % h : Nat) : Int), 2 ^ h - 1 - 2 ^ (j % h), 10000 + 50000 * (j : Int), 64 + (j : Int)⟩] := by
  unfold famE
  rw [if_pos h1, if_pos h1, List.range_succ, List.map_append]
  rfl
theorem famD_succ (j : Nat) : famD (j + 1) = famD j ++ [[100 * ((j : Int) + 1), 100 * ((j : Int) + 1) + 50]] := by
  unfold famD
  rw [List.range_succ, List.map_append]
  rfl
theorem famE_len (h j : Nat) (h1 : 1 < h) : (famE h j).length = j := by
  unfold famE
  rw [if_pos h1, List.length_map, List.length_range]
theorem famD_len (j : Nat) : (famD j).length = j := by
  unfold famD
  rw [List.length_map, List.length_range]
abbrev fcs (h : Nat) (vd ve : Value) : List Value := [.int .i64 (h : Int), .int .i64 2000000, .int .i64 2000, .int .i64 1000, .int .i64 500, vd, ve, .slice none 0 0, .int .i64 8]
set_option maxRecDepth 100000 in
set_option maxRecDepth 100000 in
def clampH (x : Int) : Nat := if x < 1 then 1 else if 6 < x then 6 else x.toNat
def clampN (x : Int) : Nat := if x < 0 then 0 else if 16 < x then 16 else x.toNat
set_option maxRecDepth 100000 in
end
end Go.Proofs.Yteofdikfdknpbaa.F
end
section
namespace Go.Proofs.Yteofdikfdknpbaa.F
open Go Go.Proofs.Yteofdikfdknpbaa.E
set_option linter.unusedVariables false
set_option linter.unusedSimpArgs false
section
variable {W : World}
theorem famC_B (h n : Nat) (hh : h ≤ 6) (hn : n ≤ 16) : CfgB (famC h n) := by
  refine ⟨?_, ?_, ?_, ?_, ?_, ?_⟩
  · show (famD h).length * 24 ≤ _
    rw [famD_len]; omega
  · intro l hl
    obtain ⟨i, _, rfl⟩ := List.mem_map.1 hl
    show 2 * 8 ≤ _
    omega
  · show (famE h n).length * 32 ≤ _
    by_cases h1 : 1 < h
    · rw [famE_len h n h1]; omega
    · unfold famE; rw [if_neg h1]; show 0 * 32 ≤ _; omega
  · show 0 * 32 ≤ _; omega
  · intro e he
    have he : e ∈ famE h n := he
    unfold famE at he
    split at he
    · obtain ⟨i, _, rfl⟩ := List.mem_map.1 he
      have h6 : 2 ^ h ≤ 2 ^ 6 := Nat.pow_le_pow_right (by omega) hh
      exact Nat.lt_of_le_of_lt (Nat.sub_le _ _) (Nat.lt_of_le_of_lt (Nat.sub_le _ _) (Nat.lt_of_le_of_lt h6 (by decide)))
    · cases he
  · intro e he; cases he
set_option maxRecDepth 100000 in
set_option maxHeartbeats 2000000 in
end
end Go.Proofs.Yteofdikfdknpbaa.F
end
section
namespace Go.Proofs.Yteofdikfdknpbaa.F
open Go Go.RowKit Go.Deep Go.ChangeShapes Go.WideShapes Go.Proofs.Yteofdikfdknpbaa.E
set_option linter.unusedVariables false
set_option linter.unusedSimpArgs false
def i64R (x : Int) : Prop := -9223372036854775808 ≤ x ∧ x < 9223372036854775808
structure CfgR (c : Cfg) : Prop where
  hosts : i64R c.hosts
  cycle : i64R c.cycle
  delay : i64R c.delay
  window : i64R c.window
  prec : i64R c.prec
  queue : i64R c.queue
  ent : ∀ e ∈ c.entries, i64R e.f ∧ i64R e.ph ∧ i64R e.sz
  lnk : ∀ e ∈ c.links, i64R e.f ∧ i64R e.gap ∧ i64R e.sz
  del : ∀ l ∈ c.delays, ∀ n ∈ l, i64R n
def rN (e : En) : Prop := e.t < 4294967296 ∧ i64R e.f ∧ i64R e.ph ∧ i64R e.sz
def rK (e : Lk) : Prop := e.t < 4294967296 ∧ i64R e.f ∧ i64R e.gap ∧ i64R e.sz
theorem rf_N : Rf Try.prog 68 NT.cs rN := by
  intro H enc w base spare held fuel cs y h hw
  obtain ⟨hl, n, hf⟩ := E.rd_struct Try.underlying68 h hw
  have hl' : cs.length = 4 := hl.trans (by kernel_rfl)
  clear hl
  match cs, hl' with
  | [c0, c1, c2, c3], _ =>
    obtain ⟨z0, hz0, hw0⟩ := hf 0 _ rfl
    have e0 : ((([c0, c1, c2, c3] : List Value).drop 0).take (Try.prog.cellsOf 3)) = [c0] := by rw [show Try.prog.cellsOf 3 = 1 from by kernel_rfl]; rfl
    obtain ⟨x0, h0, wf0⟩ := (show Rf Try.prog 3 _ _ from Rf.int Try.underlying3) enc w base spare held n _ z0 hz0 hw0
    have g0 := e0.symm.trans h0
    simp only [List.cons.injEq, and_true] at g0
    obtain ⟨z1, hz1, hw1⟩ := hf 1 _ rfl
    have e1 : ((([c0, c1, c2, c3] : List Value).drop 1).take (Try.prog.cellsOf 27)) = [c1] := by rw [show Try.prog.cellsOf 27 = 1 from by kernel_rfl]; rfl
    obtain ⟨x1, h1, wf1⟩ := (show Rf Try.prog 27 _ _ from Rf.int Try.underlying27) enc w base spare held n _ z1 hz1 hw1
    have g1 := e1.symm.trans h1
    simp only [List.cons.injEq, and_true] at g1
    obtain ⟨z2, hz2, hw2⟩ := hf 2 _ rfl
    have e2 : ((([c0, c1, c2, c3] : List Value).drop 2).take (Try.prog.cellsOf 2)) = [c2] := by rw [show Try.prog.cellsOf 2 = 1 from by kernel_rfl]; rfl
    obtain ⟨x2, h2, wf2⟩ := (show Rf Try.prog 2 _ _ from Rf.int Try.underlying2) enc w base spare held n _ z2 hz2 hw2
    have g2 := e2.symm.trans h2
    simp only [List.cons.injEq, and_true] at g2
    obtain ⟨z3, hz3, hw3⟩ := hf 3 _ rfl
    have e3 : ((([c0, c1, c2, c3] : List Value).drop 3).take (Try.prog.cellsOf 3)) = [c3] := by rw [show Try.prog.cellsOf 3 = 1 from by kernel_rfl]; rfl
    obtain ⟨x3, h3, wf3⟩ := (show Rf Try.prog 3 _ _ from Rf.int Try.underlying3) enc w base spare held n _ z3 hz3 hw3
    have g3 := e3.symm.trans h3
    simp only [List.cons.injEq, and_true] at g3
    subst g0 g1 g2 g3
    obtain ⟨c, rfl⟩ := u32_nat wf1
    exact ⟨⟨x0, c.1, x2, x3⟩, rfl, c.2, i64_rng wf0, i64_rng wf2, i64_rng wf3⟩
theorem rf_K : Rf Try.prog 73 KT.cs rK := by
  intro H enc w base spare held fuel cs y h hw
  obtain ⟨hl, n, hf⟩ := E.rd_struct Try.underlying73 h hw
  have hl' : cs.length = 4 := hl.trans (by kernel_rfl)
  clear hl
  match cs, hl' with
  | [c0, c1, c2, c3], _ =>
    obtain ⟨z0, hz0, hw0⟩ := hf 0 _ rfl
    have e0 : ((([c0, c1, c2, c3] : List Value).drop 0).take (Try.prog.cellsOf 3)) = [c0] := by rw [show Try.prog.cellsOf 3 = 1 from by kernel_rfl]; rfl
    obtain ⟨x0, h0, wf0⟩ := (show Rf Try.prog 3 _ _ from Rf.int Try.underlying3) enc w base spare held n _ z0 hz0 hw0
    have g0 := e0.symm.trans h0
    simp only [List.cons.injEq, and_true] at g0
    obtain ⟨z1, hz1, hw1⟩ := hf 1 _ rfl
    have e1 : ((([c0, c1, c2, c3] : List Value).drop 1).take (Try.prog.cellsOf 27)) = [c1] := by rw [show Try.prog.cellsOf 27 = 1 from by kernel_rfl]; rfl
    obtain ⟨x1, h1, wf1⟩ := (show Rf Try.prog 27 _ _ from Rf.int Try.underlying27) enc w base spare held n _ z1 hz1 hw1
    have g1 := e1.symm.trans h1
    simp only [List.cons.injEq, and_true] at g1
    obtain ⟨z2, hz2, hw2⟩ := hf 2 _ rfl
    have e2 : ((([c0, c1, c2, c3] : List Value).drop 2).take (Try.prog.cellsOf 2)) = [c2] := by rw [show Try.prog.cellsOf 2 = 1 from by kernel_rfl]; rfl
    obtain ⟨x2, h2, wf2⟩ := (show Rf Try.prog 2 _ _ from Rf.int Try.underlying2) enc w base spare held n _ z2 hz2 hw2
    have g2 := e2.symm.trans h2
    simp only [List.cons.injEq, and_true] at g2
    obtain ⟨z3, hz3, hw3⟩ := hf 3 _ rfl
    have e3 : ((([c0, c1, c2, c3] : List Value).drop 3).take (Try.prog.cellsOf 3)) = [c3] := by rw [show Try.prog.cellsOf 3 = 1 from by kernel_rfl]; rfl
    obtain ⟨x3, h3, wf3⟩ := (show Rf Try.prog 3 _ _ from Rf.int Try.underlying3) enc w base spare held n _ z3 hz3 hw3
    have g3 := e3.symm.trans h3
    simp only [List.cons.injEq, and_true] at g3
    subst g0 g1 g2 g3
    obtain ⟨c, rfl⟩ := u32_nat wf1
    exact ⟨⟨x0, c.1, x2, x3⟩, rfl, c.2, i64_rng wf0, i64_rng wf2, i64_rng wf3⟩
theorem okCell_slice {P : Program} {t e : TypeId} (ht : P.underlying t = some (.slice e)) {w : World} {base : Nat} {v : Value} (hv : Cell.okWide P w .any base t v) : ∀ (a : Addr) (l c : Nat), v = .slice (some a) l c → a.spot = none ∧ a.block < w.heap.size := by
  rintro a l c rfl
  unfold Cell.okWide at hv
  rw [ht] at hv
  dsimp only at hv
  unfold Cell.ok at hv
  rw [ht] at hv
  obtain ⟨_, _, _, hs, row, cells, hsh, _⟩ := hv
  refine ⟨hs, ?_⟩
  unfold World.shape? at hsh
  by_cases hlt : a.block < w.heap.size
  · exact hlt
  · rw [Array.getElem?_eq_none (by omega)] at hsh
    simp at hsh
theorem oldV_slice {w : World} {v : Value} {a : Option Addr} {n c : Nat} (e : v = .slice a n c) (h : ∀ (a : Addr) (l c : Nat), v = .slice (some a) l c → a.spot = none ∧ a.block < w.heap.size) : oldV w v = true := by
  subst e
  cases a with
  | none => rfl
  | some a => exact decide_eq_true (h a n c rfl).2
theorem old_cfg {H : Type} {enc : TypeId × Value → H} {w : World} {base base' : Nat} {held : Bool} {fuel : Nat} {cs : List Value} {y : DataW H × List MemPlace}
    (h : DataW.trod enc Try.prog w base (fun _ => true) held fuel 26 cs = some y) (hw : ∀ n ∈ y.1.weights Try.prog 26, n ≤ reachBytes) (hv : Value.okWide Try.prog w .any base' 26 (.agg cs.toArray)) :
    ∃ (c : Cfg) (q : Pl), cs = ccs c q ∧ CfgB c ∧ CfgR c ∧ (∀ S, Gd w S → w.heap.size < S.c → CfgAt w S c q) ∧ cs.all (oldV w) = true := by
  obtain ⟨hl, n, hf⟩ := E.rd_struct Try.underlying26 h hw
  have hl' : cs.length = 9 := hl.trans (by kernel_rfl)
  clear hl
  unfold Value.okWide at hv
  rw [Try.underlying26] at hv
  obtain ⟨cs', e, hsz, ts, hts, _, hcell⟩ := hv
  injection e with e
  subst e
  have ets : ts = [3, 2, 2, 2, 2, 22, 23, 24, 3] := Option.some.inj (hts.symm.trans (show Try.prog.cellTypes Try.prog.depth 26 = some [3, 2, 2, 2, 2, 22, 23, 24, 3] by kernel_rfl))
  subst ets
  match cs, hl' with
  | [x0, x1, x2, x3, x4, x5, x6, x7, x8], _ =>
    obtain ⟨z0, hz0, hw0⟩ := hf 0 _ rfl
    have e0 : ((([x0, x1, x2, x3, x4, x5, x6, x7, x8] : List Value).drop 0).take (Try.prog.cellsOf 3)) = [x0] := by rw [show Try.prog.cellsOf 3 = 1 from by kernel_rfl]; rfl
    obtain ⟨n0, h0, wf0⟩ := (show Rf Try.prog 3 _ _ from Rf.int Try.underlying3) enc w base (fun _ => true) held n _ z0 hz0 hw0
    have g0 := e0.symm.trans h0
    simp only [List.cons.injEq, and_true] at g0
    obtain ⟨z1, hz1, hw1⟩ := hf 1 _ rfl
    have e1 : ((([x0, x1, x2, x3, x4, x5, x6, x7, x8] : List Value).drop 1).take (Try.prog.cellsOf 2)) = [x1] := by rw [show Try.prog.cellsOf 2 = 1 from by kernel_rfl]; rfl
    obtain ⟨n1, h1, wf1⟩ := (show Rf Try.prog 2 _ _ from Rf.int Try.underlying2) enc w base (fun _ => true) held n _ z1 hz1 hw1
    have g1 := e1.symm.trans h1
    simp only [List.cons.injEq, and_true] at g1
    obtain ⟨z2, hz2, hw2⟩ := hf 2 _ rfl
    have e2 : ((([x0, x1, x2, x3, x4, x5, x6, x7, x8] : List Value).drop 2).take (Try.prog.cellsOf 2)) = [x2] := by rw [show Try.prog.cellsOf 2 = 1 from by kernel_rfl]; rfl
    obtain ⟨n2, h2, wf2⟩ := (show Rf Try.prog 2 _ _ from Rf.int Try.underlying2) enc w base (fun _ => true) held n _ z2 hz2 hw2
    have g2 := e2.symm.trans h2
    simp only [List.cons.injEq, and_true] at g2
    obtain ⟨z3, hz3, hw3⟩ := hf 3 _ rfl
    have e3 : ((([x0, x1, x2, x3, x4, x5, x6, x7, x8] : List Value).drop 3).take (Try.prog.cellsOf 2)) = [x3] := by rw [show Try.prog.cellsOf 2 = 1 from by kernel_rfl]; rfl
    obtain ⟨n3, h3, wf3⟩ := (show Rf Try.prog 2 _ _ from Rf.int Try.underlying2) enc w base (fun _ => true) held n _ z3 hz3 hw3
    have g3 := e3.symm.trans h3
    simp only [List.cons.injEq, and_true] at g3
    obtain ⟨z4, hz4, hw4⟩ := hf 4 _ rfl
    have e4 : ((([x0, x1, x2, x3, x4, x5, x6, x7, x8] : List Value).drop 4).take (Try.prog.cellsOf 2)) = [x4] := by rw [show Try.prog.cellsOf 2 = 1 from by kernel_rfl]; rfl
    obtain ⟨n4, h4, wf4⟩ := (show Rf Try.prog 2 _ _ from Rf.int Try.underlying2) enc w base (fun _ => true) held n _ z4 hz4 hw4
    have g4 := e4.symm.trans h4
    simp only [List.cons.injEq, and_true] at g4
    obtain ⟨z5, hz5, hw5⟩ := hf 5 _ rfl
    have e5 : ((([x0, x1, x2, x3, x4, x5, x6, x7, x8] : List Value).drop 5).take (Try.prog.cellsOf 22)) = [x5] := by rw [show Try.prog.cellsOf 22 = 1 from by kernel_rfl]; rfl
    have hz5 : DataW.trod enc Try.prog w base (fun _ => true) held n 22 [x5] = some z5 := hz5
    have ok5 : ∀ (a : Addr) (l c : Nat), x5 = .slice (some a) l c → a.spot = none ∧ a.block < w.heap.size := by
      obtain ⟨u, hu, hc⟩ := hcell 5 x5 rfl
      obtain rfl : u = 22 := (Option.some.inj hu).symm
      exact okCell_slice Try.underlying22 hc
    obtain ⟨z6, hz6, hw6⟩ := hf 6 _ rfl
    have e6 : ((([x0, x1, x2, x3, x4, x5, x6, x7, x8] : List Value).drop 6).take (Try.prog.cellsOf 23)) = [x6] := by rw [show Try.prog.cellsOf 23 = 1 from by kernel_rfl]; rfl
    have hz6 : DataW.trod enc Try.prog w base (fun _ => true) held n 23 [x6] = some z6 := hz6
    have ok6 : ∀ (a : Addr) (l c : Nat), x6 = .slice (some a) l c → a.spot = none ∧ a.block < w.heap.size := by
      obtain ⟨u, hu, hc⟩ := hcell 6 x6 rfl
      obtain rfl : u = 23 := (Option.some.inj hu).symm
      exact okCell_slice Try.underlying23 hc
    obtain ⟨z7, hz7, hw7⟩ := hf 7 _ rfl
    have e7 : ((([x0, x1, x2, x3, x4, x5, x6, x7, x8] : List Value).drop 7).take (Try.prog.cellsOf 24)) = [x7] := by rw [show Try.prog.cellsOf 24 = 1 from by kernel_rfl]; rfl
    have hz7 : DataW.trod enc Try.prog w base (fun _ => true) held n 24 [x7] = some z7 := hz7
    have ok7 : ∀ (a : Addr) (l c : Nat), x7 = .slice (some a) l c → a.spot = none ∧ a.block < w.heap.size := by
      obtain ⟨u, hu, hc⟩ := hcell 7 x7 rfl
      obtain rfl : u = 24 := (Option.some.inj hu).symm
      exact okCell_slice Try.underlying24 hc
    obtain ⟨z8, hz8, hw8⟩ := hf 8 _ rfl
    have e8 : ((([x0, x1, x2, x3, x4, x5, x6, x7, x8] : List Value).drop 8).take (Try.prog.cellsOf 3)) = [x8] := by rw [show Try.prog.cellsOf 3 = 1 from by kernel_rfl]; rfl
    obtain ⟨n8, h8, wf8⟩ := (show Rf Try.prog 3 _ _ from Rf.int Try.underlying3) enc w base (fun _ => true) held n _ z8 hz8 hw8
    have g8 := e8.symm.trans h8
    simp only [List.cons.injEq, and_true] at g8
    subst g0 g1 g2 g3 g4 g8
    obtain ⟨le, oe, be, re⟩ := old_slice_at (T := NT) Try.underlying23 (by kernel_rfl) rf_N hz6 hw6 ok6
    obtain ⟨lk, ok, bk, rk⟩ := old_slice_at (T := KT) Try.underlying24 (by kernel_rfl) rf_K hz7 hw7 ok7
    obtain ⟨iv, bi, vi, ri⟩ := old_slices (T := IT) Try.underlying22 Try.underlying65 (by kernel_rfl) (by kernel_rfl) (Rf.int Try.underlying2) (fun _ => rfl) hz5 hw5 ok5
    obtain ⟨ae, ce, ee⟩ := oe.form
    obtain ⟨ak, ck, ek⟩ := ok.form
    obtain ⟨ad, cd, ed⟩ : ∃ a c, x5 = .slice a iv.length c := by
      rcases vi with ⟨e, e2⟩ | ⟨b, o, c, e, _⟩
      · exact ⟨none, 0, by rw [e, e2]; rfl⟩
      · exact ⟨_, c, e⟩
    have B32 : Try.prog.bytesOf 68 = 32 := by kernel_rfl
    have B47 : Try.prog.bytesOf 73 = 32 := by kernel_rfl
    have B45 : Try.prog.bytesOf 65 = 24 := by kernel_rfl
    have B2 : Try.prog.bytesOf 2 = 8 := by kernel_rfl
    rw [B32] at be
    rw [B47] at bk
    rw [B45] at bi
    rw [B2] at ri
    refine ⟨⟨n0, n1, n2, n3, n4, iv.map (·.l), le, lk, n8⟩, ⟨ad, cd, ae, ce, ak, ck⟩, ?_, ?_, ?_, fun S g hc => ?_, ?_⟩
    · show _ = [_, _, _, _, _, Value.slice ad (iv.map (·.l)).length cd, _, _, _]
      rw [List.length_map, ← ed, ee, ek]
    · refine ⟨?_, ?_, ?_, ?_, fun e he => (re e he).1, fun e he => (rk e he).1⟩
      · show (iv.map (·.l)).length * 24 ≤ _
        rw [List.length_map]; omega
      · intro l hl
        obtain ⟨s, hs, rfl⟩ := List.mem_map.1 hl
        have := (ri s hs).2.1
        omega
      · show le.length * 32 ≤ _
        omega
      · show lk.length * 32 ≤ _
        omega
    · refine ⟨i64_rng wf0, i64_rng wf1, i64_rng wf2, i64_rng wf3, i64_rng wf4, i64_rng wf8, fun e he => (re e he).2, fun e he => (rk e he).2, fun l hl m hm => ?_⟩
      obtain ⟨s, hs, rfl⟩ := List.mem_map.1 hl
      exact i64_rng ((ri s hs).2.2 m hm)
    · have rN' := oe.rd (fun _ => rfl) g
      have rK' := ok.rd (fun _ => rfl) g
      rw [ee] at rN'
      rw [ek] at rK'
      refine ⟨⟨iv.map fun s => ⟨s.a, s.n, s.c, s.l⟩, ?_, ?_, ?_⟩, rN', rK', ?_, ?_, ?_, ?_, fun e he => (re e he).1, fun e he => (rk e he).1⟩
      · show Rd VT w S (.slice ad (iv.map (·.l)).length cd) _
        rcases vi with ⟨e, e2⟩ | ⟨b, o, c, e, q1, q2, q3⟩
        · have : Value.slice ad iv.length cd = .slice none 0 0 := ed.symm.trans e
          subst e2
          exact this ▸ rd_nil
        · have eq := ed.symm.trans e
          injection eq with e1 _ e3
          subst e1 e3
          by_cases h0 : iv.length = 0
          · have h0' : iv = [] := List.eq_nil_of_length_eq_zero h0
            subst h0'
            exact ⟨by simpa using Nat.lt_trans q2 hc, .inl ⟨_, cd, rfl, rfl⟩⟩
          · refine ⟨by simpa using Nat.lt_trans q2 hc, .inr ⟨b, o, cd, by rw [List.length_map, List.length_map], by rw [List.length_map]; exact q1, by rw [List.length_map]; omega, Nat.lt_trans q2 hc, .inl (fx_old q2), fun _ => fx_old q2, fun j hj => ?_⟩⟩
            rw [List.length_map] at hj
            obtain ⟨u, c1, c2⟩ := q3 j hj
            have := old_cells1 (S := S) q2 c1 c2
            rw [List.getElem_map]
            refine ⟨by rw [show VT.k = 1 from rfl, Nat.mul_one]; exact this.1, fun i hi => ?_⟩
            have hi : i < 1 := hi
            obtain rfl : i = 0 := by omega
            rw [show VT.k = 1 from rfl, Nat.mul_one, Nat.add_zero]
            exact this.2
      · rw [List.map_map]; rfl
      · intro s hs
        obtain ⟨t, ht, rfl⟩ := List.mem_map.1 hs
        exact (ri t ht).1 S g hc
      · show (iv.map (·.l)).length ≤ _
        rw [List.length_map]; omega
      · intro l hl
        obtain ⟨s, hs, rfl⟩ := List.mem_map.1 hl
        have := (ri s hs).2.1
        omega
      · show le.length ≤ _
        omega
      · show lk.length ≤ _
        omega
    · have o5 := oldV_slice ed ok5
      have o6 := oldV_slice ee ok6
      have o7 := oldV_slice ek ok7
      simp only [List.all_cons, List.all_nil, o5, o6, o7, Bool.and_true]
      rfl
theorem okWide_arr {P : Program} {w : World} {r : Reach} {base n : Nat} {t e : TypeId} {v : Value} (ht : P.underlying t = some (.array n e)) (h : Value.okWide P w r base t v) : ∃ cs, v = .agg cs ∧ cs.size = P.cellsOf t := by
  simp only [Value.okWide, ht] at h
  obtain ⟨cs, h1, h2, _⟩ := h
  exact ⟨cs, h1, h2⟩
end Go.Proofs.Yteofdikfdknpbaa.F
end
section
namespace Go.Proofs.Yteofdikfdknpbaa.F
open Go Go.Proofs.Yteofdikfdknpbaa.E
set_option linter.unusedVariables false
set_option linter.unusedSimpArgs false
section
variable {W : World} {S : St}
theorem CfgAt.relock {c : Cfg} {q : Pl} (h : CfgAt W S c q) (k : Nat) : CfgAt W (S.relock k) c q := ⟨h.del, h.ent, h.lnk, h.ld, h.ldd, h.le, h.ll, h.et, h.lt⟩
end
end Go.Proofs.Yteofdikfdknpbaa.F
end
section
namespace Go.Proofs.Yteofdikfdknpbaa.F
open Go Go.Proofs.Yteofdikfdknpbaa.E
set_option linter.unusedVariables false
set_option linter.unusedSimpArgs false
def ofA (l : List Int) : Nat → Nat
  | 0 => 0
  | h + 1 => ofA l h + if (h : Int) ∈ l then 2 ^ h else 0
theorem ofA_lt (l : List Int) : ∀ h, ofA l h < 2 ^ h
  | 0 => by simp [ofA]
  | h + 1 => by
    have := ofA_lt l h
    rw [ofA, Nat.pow_succ]
    split <;> omega
theorem m2 (j : Nat) (hj : j < 6) : aBin p .mul 27 (.int .u32 ((2 ^ j : Nat) : Int)) (.int .u32 2) = some (.int .u32 ((2 ^ (j + 1) : Nat) : Int)) := by
  have : j = 0 ∨ j = 1 ∨ j = 2 ∨ j = 3 ∨ j = 4 ∨ j = 5 := by omega
  rcases this with rfl | rfl | rfl | rfl | rfl | rfl
  · exact m2_0
  · exact m2_1
  · exact m2_2
  · exact m2_3
  · exact m2_4
  · exact m2_5
section
variable {W : World} {S : St}
set_option maxRecDepth 100000 in
theorem of_inner (g : Gd W S) (l : List Int) (hlen : l.length ≤ 2 ^ 60) {v : Value} (rd : Rd IT W S v l) (h a z z2 : Nat) (hh : h < 6) (ha : a + z < 4294967296) (hz : aBin p .mul 27 (.int .u32 (z : Int)) (.int .u32 2) = some (.int .u32 (z2 : Int))) (n : Nat) : ∀ (k : Nat) (hk : n + k = l.length) (y1 y2 y7 y8 y9 y10 y26 y27 y28 : Value),
    bindO (l21_1110100100010 W v y1 y2 (.int .u32 (a : Int)) (.int .u32 (z : Int)) (.int .i64 (h : Int)) (.int .i64 (k : Int)) y7 y8 y9 y10 y26 y27 y28 S) (fun e A S => bindO (rk W c21_111010 [1, 0, 0, 0, 1, 0] e A S) (kc W c21 [1, 1, 1, 0, 1, 0] f21)) = if (h : Int) ∈ l.drop k then bindO (l21_111010 W v y1 y2 (.int .u32 ((a + z : Nat) : Int)) (.int .u32 (z2 : Int)) (.int .i64 ((h + 1 : Nat) : Int)) y28 S) (kc W c21 [1, 1, 1, 0, 1, 0] f21) else bindO (l21_111010 W v y1 y2 (.int .u32 (a : Int)) (.int .u32 (z2 : Int)) (.int .i64 ((h + 1 : Nat) : Int)) y28 S) (kc W c21 [1, 1, 1, 0, 1, 0] f21) := by
  have e2h : IntKind.i64.wrap ((h : Int) + 1) = ((h + 1 : Nat) : Int) := by rw [wrap64 (by omega) (by omega)]; omega
  have ew : IntKind.u32.wrap ((a : Int) + (z : Int)) = ((a + z : Nat) : Int) := by rw [wrapu32 (by omega) (by omega)]; omega
  induction n with
  | zero =>
    intro k hk y1 y2 y7 y8 y9 y10 y26 y27 y28
    have hx : ¬ (k : Int) < (l.length : Int) := by omega
    rw [List.drop_eq_nil_of_le (by omega), if_neg (by simp)]
    obtain ⟨av, cv, rfl⟩ := rd.form
    have hN := g.n; have hL : S.lock ≤ S.c := g.ok.1
    rw [r21_1110100100010]
    simp -implicitDefEqProofs (maxSteps := 1000000) (disch := (refine id ?_; first | ((first | fail); (first | fail)) | ((fail_if_success (with_reducible apply isT_of)); (fail_if_success (first | fail)); first | omega | (with_reducible refine Low.new ?_ _; (repeat (first | refine Low.upd ?_ (by (first | omega )) _)); done) | (with_reducible refine Low.upd ?_ (by (first | omega )) _; (repeat (first | refine Low.upd ?_ (by (first | omega )) _)); done) | (with_reducible refine Gd.new ?_ (by (simp only [objLt_row, objLt_dead, List.all_cons, List.all_nil, vlt1_int, vlt1_bool, vlt1_string, vlt1_nilp, vlt1_nils, vlt1_ptr, vlt1_sl, vlt1_func, vlt0_ptr, vlt0_sl, vlt0_int, vlt0_bool, vlt0_string, vlt0_nilp, vlt0_nils, vlt_int, vlt_bool, vlt_string, vlt_nilp, vlt_nils, vlt_ptr, vlt_sl, vlt_agg, vlt_func, List.toArray, Bool.and_true, Bool.true_and, Bool.and_self, Bool.and_eq_true, decide_eq_true_eq, and_true, true_and, new_c, upd_c, relock_c] <;> omega)); (repeat (first | refine Gd.upd ?_ (by (first | omega )) (by (simp only [objLt_row, objLt_dead, List.all_cons, List.all_nil, vlt1_int, vlt1_bool, vlt1_string, vlt1_nilp, vlt1_nils, vlt1_ptr, vlt1_sl, vlt1_func, vlt0_ptr, vlt0_sl, vlt0_int, vlt0_bool, vlt0_string, vlt0_nilp, vlt0_nils, vlt_int, vlt_bool, vlt_string, vlt_nilp, vlt_nils, vlt_ptr, vlt_sl, vlt_agg, vlt_func, List.toArray, Bool.and_true, Bool.true_and, Bool.and_self, Bool.and_eq_true, decide_eq_true_eq, and_true, true_and, new_c, upd_c, relock_c] <;> omega)) )); done) | (with_reducible refine Gd.upd ?_ (by (first | omega )) (by (simp only [objLt_row, objLt_dead, List.all_cons, List.all_nil, vlt1_int, vlt1_bool, vlt1_string, vlt1_nilp, vlt1_nils, vlt1_ptr, vlt1_sl, vlt1_func, vlt0_ptr, vlt0_sl, vlt0_int, vlt0_bool, vlt0_string, vlt0_nilp, vlt0_nils, vlt_int, vlt_bool, vlt_string, vlt_nilp, vlt_nils, vlt_ptr, vlt_sl, vlt_agg, vlt_func, List.toArray, Bool.and_true, Bool.true_and, Bool.and_self, Bool.and_eq_true, decide_eq_true_eq, and_true, true_and, new_c, upd_c, relock_c] <;> omega)); (repeat (first | refine Gd.upd ?_ (by (first | omega )) (by (simp only [objLt_row, objLt_dead, List.all_cons, List.all_nil, vlt1_int, vlt1_bool, vlt1_string, vlt1_nilp, vlt1_nils, vlt1_ptr, vlt1_sl, vlt1_func, vlt0_ptr, vlt0_sl, vlt0_int, vlt0_bool, vlt0_string, vlt0_nilp, vlt0_nils, vlt_int, vlt_bool, vlt_string, vlt_nilp, vlt_nils, vlt_ptr, vlt_sl, vlt_agg, vlt_func, List.toArray, Bool.and_true, Bool.true_and, Bool.and_self, Bool.and_eq_true, decide_eq_true_eq, and_true, true_and, new_c, upd_c, relock_c] <;> omega)) )); done) | (with_reducible refine Gd.relock2 ?_ ?_; rotate_left; simp only [new_c, upd_c, relock_c]; (repeat (first | refine Gd.upd ?_ (by (first | omega )) (by (simp only [objLt_row, objLt_dead, List.all_cons, List.all_nil, vlt1_int, vlt1_bool, vlt1_string, vlt1_nilp, vlt1_nils, vlt1_ptr, vlt1_sl, vlt1_func, vlt0_ptr, vlt0_sl, vlt0_int, vlt0_bool, vlt0_string, vlt0_nilp, vlt0_nils, vlt_int, vlt_bool, vlt_string, vlt_nilp, vlt_nils, vlt_ptr, vlt_sl, vlt_agg, vlt_func, List.toArray, Bool.and_true, Bool.true_and, Bool.and_self, Bool.and_eq_true, decide_eq_true_eq, and_true, true_and, new_c, upd_c, relock_c] <;> omega)) )); done) | (with_reducible refine nat_eq_id ?_; first | fail) | (with_reducible refine Rd.low (by with_reducible assumption) ?_; (repeat (first | refine Low.upd ?_ (by (first | omega )) _)); done) | ((first | fail); simp only [IsT, decide_eq_true_eq, Bool.and_eq_true, Bool.or_eq_true, Bool.not_eq_true', decide_eq_false_iff_not] at *; omega) | fail))) only [hx, hz, e2h, k21_1110100100010_2, ↓bindV_some, ↓bindO_some, ↓condB_true, ↓condB_false, bindV_some, bindO_some, wrap64, wrapu32, ↓condK_B, bin_add, bin_lss, bin_eql, nth_zero, eq_self, decide_true, decide_false, Nat.add_zero, not_false_eq_true, Nat.reduceAdd, Nat.reduceSub, Nat.reduceMul, Nat.reduceLeDiff, Nat.reduceLT, Nat.reduceEqDiff, Int.reduceLE, Int.reduceLT, Int.reduceAdd, Int.reduceNeg, Int.reduceEq, Int.reduceSub, Int.reduceMul, Int.reduceToNat, Int.toNat_natCast, Nat.mul_one, ↓reduceIte, reduceCtorEq, ld_3, len_64, ix_64]
  | succ n ih =>
    intro k hk y1 y2 y7 y8 y9 y10 y26 y27 y28
    have hkl : k < l.length := by omega
    have hx : (k : Int) < (l.length : Int) := by omega
    have e2 : IntKind.i64.wrap ((k : Int) + 1) = ((k + 1 : Nat) : Int) := by rw [wrap64 (by omega) (by omega)]; omega
    have ih := ih (k + 1) (by omega) y1 y2 y7 y8 y9 y10 y26 y27 y28
    obtain ⟨b, o, cp, rfl, hbS, hr⟩ := rd.at (by omega)
    have e5 := (hr k hkl).2 0 (by decide)
    rw [show IT.k = 1 from rfl, show IT.cs l[k] = [.int .i64 l[k]] from rfl, Nat.mul_one, Nat.add_zero, nth_zero] at e5
    rw [List.drop_eq_getElem_cons hkl]
    clear hr
    generalize l[k] = x at *
    have hN := g.n; have hL : S.lock ≤ S.c := g.ok.1
    rw [r21_1110100100010]
    by_cases hxh : x = (h : Int)
    · rw [if_pos (by rw [hxh]; exact List.mem_cons_self ..)]
      subst hxh
      simp -implicitDefEqProofs (maxSteps := 1000000) (disch := (refine id ?_; first | ((first | fail); (first | fail)) | ((fail_if_success (with_reducible apply isT_of)); (fail_if_success (first | fail)); first | omega | (with_reducible refine Low.new ?_ _; (repeat (first | refine Low.upd ?_ (by (first | omega )) _)); done) | (with_reducible refine Low.upd ?_ (by (first | omega )) _; (repeat (first | refine Low.upd ?_ (by (first | omega )) _)); done) | (with_reducible refine Gd.new ?_ (by (simp only [objLt_row, objLt_dead, List.all_cons, List.all_nil, vlt1_int, vlt1_bool, vlt1_string, vlt1_nilp, vlt1_nils, vlt1_ptr, vlt1_sl, vlt1_func, vlt0_ptr, vlt0_sl, vlt0_int, vlt0_bool, vlt0_string, vlt0_nilp, vlt0_nils, vlt_int, vlt_bool, vlt_string, vlt_nilp, vlt_nils, vlt_ptr, vlt_sl, vlt_agg, vlt_func, List.toArray, Bool.and_true, Bool.true_and, Bool.and_self, Bool.and_eq_true, decide_eq_true_eq, and_true, true_and, new_c, upd_c, relock_c] <;> omega)); (repeat (first | refine Gd.upd ?_ (by (first | omega )) (by (simp only [objLt_row, objLt_dead, List.all_cons, List.all_nil, vlt1_int, vlt1_bool, vlt1_string, vlt1_nilp, vlt1_nils, vlt1_ptr, vlt1_sl, vlt1_func, vlt0_ptr, vlt0_sl, vlt0_int, vlt0_bool, vlt0_string, vlt0_nilp, vlt0_nils, vlt_int, vlt_bool, vlt_string, vlt_nilp, vlt_nils, vlt_ptr, vlt_sl, vlt_agg, vlt_func, List.toArray, Bool.and_true, Bool.true_and, Bool.and_self, Bool.and_eq_true, decide_eq_true_eq, and_true, true_and, new_c, upd_c, relock_c] <;> omega)) )); done) | (with_reducible refine Gd.upd ?_ (by (first | omega )) (by (simp only [objLt_row, objLt_dead, List.all_cons, List.all_nil, vlt1_int, vlt1_bool, vlt1_string, vlt1_nilp, vlt1_nils, vlt1_ptr, vlt1_sl, vlt1_func, vlt0_ptr, vlt0_sl, vlt0_int, vlt0_bool, vlt0_string, vlt0_nilp, vlt0_nils, vlt_int, vlt_bool, vlt_string, vlt_nilp, vlt_nils, vlt_ptr, vlt_sl, vlt_agg, vlt_func, List.toArray, Bool.and_true, Bool.true_and, Bool.and_self, Bool.and_eq_true, decide_eq_true_eq, and_true, true_and, new_c, upd_c, relock_c] <;> omega)); (repeat (first | refine Gd.upd ?_ (by (first | omega )) (by (simp only [objLt_row, objLt_dead, List.all_cons, List.all_nil, vlt1_int, vlt1_bool, vlt1_string, vlt1_nilp, vlt1_nils, vlt1_ptr, vlt1_sl, vlt1_func, vlt0_ptr, vlt0_sl, vlt0_int, vlt0_bool, vlt0_string, vlt0_nilp, vlt0_nils, vlt_int, vlt_bool, vlt_string, vlt_nilp, vlt_nils, vlt_ptr, vlt_sl, vlt_agg, vlt_func, List.toArray, Bool.and_true, Bool.true_and, Bool.and_self, Bool.and_eq_true, decide_eq_true_eq, and_true, true_and, new_c, upd_c, relock_c] <;> omega)) )); done) | (with_reducible refine Gd.relock2 ?_ ?_; rotate_left; simp only [new_c, upd_c, relock_c]; (repeat (first | refine Gd.upd ?_ (by (first | omega )) (by (simp only [objLt_row, objLt_dead, List.all_cons, List.all_nil, vlt1_int, vlt1_bool, vlt1_string, vlt1_nilp, vlt1_nils, vlt1_ptr, vlt1_sl, vlt1_func, vlt0_ptr, vlt0_sl, vlt0_int, vlt0_bool, vlt0_string, vlt0_nilp, vlt0_nils, vlt_int, vlt_bool, vlt_string, vlt_nilp, vlt_nils, vlt_ptr, vlt_sl, vlt_agg, vlt_func, List.toArray, Bool.and_true, Bool.true_and, Bool.and_self, Bool.and_eq_true, decide_eq_true_eq, and_true, true_and, new_c, upd_c, relock_c] <;> omega)) )); done) | (with_reducible refine nat_eq_id ?_; first | fail) | (with_reducible refine Rd.low (by with_reducible assumption) ?_; (repeat (first | refine Low.upd ?_ (by (first | omega )) _)); done) | ((first | fail); simp only [IsT, decide_eq_true_eq, Bool.and_eq_true, Bool.or_eq_true, Bool.not_eq_true', decide_eq_false_iff_not] at *; omega) | fail))) only [hx, e5, ew, hz, e2h, k21_1110100100010_2, ↓bindV_some, ↓bindO_some, ↓condB_true, ↓condB_false, bindV_some, bindO_some, wrap64, wrapu32, ↓condK_B, bin_add, bin_lss, bin_eql, nth_zero, eq_self, decide_true, decide_false, Nat.add_zero, not_false_eq_true, Nat.reduceAdd, Nat.reduceSub, Nat.reduceMul, Nat.reduceLeDiff, Nat.reduceLT, Nat.reduceEqDiff, Int.reduceLE, Int.reduceLT, Int.reduceAdd, Int.reduceNeg, Int.reduceEq, Int.reduceSub, Int.reduceMul, Int.reduceToNat, Int.toNat_natCast, Nat.mul_one, ↓reduceIte, reduceCtorEq, ld_3, len_64, ix_64]
    · simp -implicitDefEqProofs (maxSteps := 1000000) (disch := (refine id ?_; first | ((first | fail); (first | fail)) | ((fail_if_success (with_reducible apply isT_of)); (fail_if_success (first | fail)); first | omega | (with_reducible refine Low.new ?_ _; (repeat (first | refine Low.upd ?_ (by (first | omega )) _)); done) | (with_reducible refine Low.upd ?_ (by (first | omega )) _; (repeat (first | refine Low.upd ?_ (by (first | omega )) _)); done) | (with_reducible refine Gd.new ?_ (by (simp only [objLt_row, objLt_dead, List.all_cons, List.all_nil, vlt1_int, vlt1_bool, vlt1_string, vlt1_nilp, vlt1_nils, vlt1_ptr, vlt1_sl, vlt1_func, vlt0_ptr, vlt0_sl, vlt0_int, vlt0_bool, vlt0_string, vlt0_nilp, vlt0_nils, vlt_int, vlt_bool, vlt_string, vlt_nilp, vlt_nils, vlt_ptr, vlt_sl, vlt_agg, vlt_func, List.toArray, Bool.and_true, Bool.true_and, Bool.and_self, Bool.and_eq_true, decide_eq_true_eq, and_true, true_and, new_c, upd_c, relock_c] <;> omega)); (repeat (first | refine Gd.upd ?_ (by (first | omega )) (by (simp only [objLt_row, objLt_dead, List.all_cons, List.all_nil, vlt1_int, vlt1_bool, vlt1_string, vlt1_nilp, vlt1_nils, vlt1_ptr, vlt1_sl, vlt1_func, vlt0_ptr, vlt0_sl, vlt0_int, vlt0_bool, vlt0_string, vlt0_nilp, vlt0_nils, vlt_int, vlt_bool, vlt_string, vlt_nilp, vlt_nils, vlt_ptr, vlt_sl, vlt_agg, vlt_func, List.toArray, Bool.and_true, Bool.true_and, Bool.and_self, Bool.and_eq_true, decide_eq_true_eq, and_true, true_and, new_c, upd_c, relock_c] <;> omega)) )); done) | (with_reducible refine Gd.upd ?_ (by (first | omega )) (by (simp only [objLt_row, objLt_dead, List.all_cons, List.all_nil, vlt1_int, vlt1_bool, vlt1_string, vlt1_nilp, vlt1_nils, vlt1_ptr, vlt1_sl, vlt1_func, vlt0_ptr, vlt0_sl, vlt0_int, vlt0_bool, vlt0_string, vlt0_nilp, vlt0_nils, vlt_int, vlt_bool, vlt_string, vlt_nilp, vlt_nils, vlt_ptr, vlt_sl, vlt_agg, vlt_func, List.toArray, Bool.and_true, Bool.true_and, Bool.and_self, Bool.and_eq_true, decide_eq_true_eq, and_true, true_and, new_c, upd_c, relock_c] <;> omega)); (repeat (first | refine Gd.upd ?_ (by (first | omega )) (by (simp only [objLt_row, objLt_dead, List.all_cons, List.all_nil, vlt1_int, vlt1_bool, vlt1_string, vlt1_nilp, vlt1_nils, vlt1_ptr, vlt1_sl, vlt1_func, vlt0_ptr, vlt0_sl, vlt0_int, vlt0_bool, vlt0_string, vlt0_nilp, vlt0_nils, vlt_int, vlt_bool, vlt_string, vlt_nilp, vlt_nils, vlt_ptr, vlt_sl, vlt_agg, vlt_func, List.toArray, Bool.and_true, Bool.true_and, Bool.and_self, Bool.and_eq_true, decide_eq_true_eq, and_true, true_and, new_c, upd_c, relock_c] <;> omega)) )); done) | (with_reducible refine Gd.relock2 ?_ ?_; rotate_left; simp only [new_c, upd_c, relock_c]; (repeat (first | refine Gd.upd ?_ (by (first | omega )) (by (simp only [objLt_row, objLt_dead, List.all_cons, List.all_nil, vlt1_int, vlt1_bool, vlt1_string, vlt1_nilp, vlt1_nils, vlt1_ptr, vlt1_sl, vlt1_func, vlt0_ptr, vlt0_sl, vlt0_int, vlt0_bool, vlt0_string, vlt0_nilp, vlt0_nils, vlt_int, vlt_bool, vlt_string, vlt_nilp, vlt_nils, vlt_ptr, vlt_sl, vlt_agg, vlt_func, List.toArray, Bool.and_true, Bool.true_and, Bool.and_self, Bool.and_eq_true, decide_eq_true_eq, and_true, true_and, new_c, upd_c, relock_c] <;> omega)) )); done) | (with_reducible refine nat_eq_id ?_; first | fail) | (with_reducible refine Rd.low (by with_reducible assumption) ?_; (repeat (first | refine Low.upd ?_ (by (first | omega )) _)); done) | ((first | fail); simp only [IsT, decide_eq_true_eq, Bool.and_eq_true, Bool.or_eq_true, Bool.not_eq_true', decide_eq_false_iff_not] at *; omega) | fail))) only [hx, e2, e5, hxh, ↓bindV_some, ↓bindO_some, ↓condB_true, ↓condB_false, bindV_some, bindO_some, wrap64, wrapu32, ↓condK_B, bin_add, bin_lss, bin_eql, nth_zero, eq_self, decide_true, decide_false, Nat.add_zero, not_false_eq_true, Nat.reduceAdd, Nat.reduceSub, Nat.reduceMul, Nat.reduceLeDiff, Nat.reduceLT, Nat.reduceEqDiff, Int.reduceLE, Int.reduceLT, Int.reduceAdd, Int.reduceNeg, Int.reduceEq, Int.reduceSub, Int.reduceMul, Int.reduceToNat, Int.toNat_natCast, Nat.mul_one, ↓reduceIte, reduceCtorEq, ld_3, len_64, ix_64]
      rw [ih]
      by_cases hm : (h : Int) ∈ l.drop (k + 1)
      · rw [if_pos hm, if_pos (List.mem_cons_of_mem _ hm)]
      · rw [if_neg hm, if_neg (fun hc => by rcases List.mem_cons.1 hc with hc | hc; exact hxh hc.symm; exact hm hc)]
set_option maxRecDepth 100000 in
theorem of_outer (g : Gd W S) (l : List Int) (hlen : l.length ≤ 2 ^ 60) {v : Value} (rd : Rd IT W S v l) (n : Nat) : ∀ (h : Nat) (hn : n + h = 6) (y1 y2 y28 : Value),
    bindO (l21_111010 W v y1 y2 (.int .u32 (ofA l h : Int)) (.int .u32 ((2 ^ h : Nat) : Int)) (.int .i64 (h : Int)) y28 S) (kc W c21 [1, 1, 1, 0, 1, 0] f21) = some (.int .u32 (ofA l 6 : Int), S) := by
  induction n with
  | zero =>
    intro h hn y1 y2 y28
    obtain rfl : h = 6 := by omega
    have hN := g.n; have hL : S.lock ≤ S.c := g.ok.1
    rw [r21_111010]
    have hx6 : ¬ (((6 : Nat) : Int) < 6) := by decide
    simp -implicitDefEqProofs (maxSteps := 1000000) (disch := (refine id ?_; first | ((first | fail); (first | fail)) | ((fail_if_success (with_reducible apply isT_of)); (fail_if_success (first | fail)); first | (with_reducible refine Low.new ?_ _; (repeat (first | refine Low.upd ?_ (by (first | fail)) _)); done) | (with_reducible refine Low.upd ?_ (by (first | fail)) _; (repeat (first | refine Low.upd ?_ (by (first | fail)) _)); done) | (with_reducible refine Gd.new ?_ (by (simp only [objLt_row, objLt_dead, List.all_cons, List.all_nil, vlt1_int, vlt1_bool, vlt1_string, vlt1_nilp, vlt1_nils, vlt1_ptr, vlt1_sl, vlt1_func, vlt0_ptr, vlt0_sl, vlt0_int, vlt0_bool, vlt0_string, vlt0_nilp, vlt0_nils, vlt_int, vlt_bool, vlt_string, vlt_nilp, vlt_nils, vlt_ptr, vlt_sl, vlt_agg, vlt_func, List.toArray, Bool.and_true, Bool.true_and, Bool.and_self, Bool.and_eq_true, decide_eq_true_eq, and_true, true_and, new_c, upd_c, relock_c] <;> omega)); (repeat (first | refine Gd.upd ?_ (by (first | fail)) (by (simp only [objLt_row, objLt_dead, List.all_cons, List.all_nil, vlt1_int, vlt1_bool, vlt1_string, vlt1_nilp, vlt1_nils, vlt1_ptr, vlt1_sl, vlt1_func, vlt0_ptr, vlt0_sl, vlt0_int, vlt0_bool, vlt0_string, vlt0_nilp, vlt0_nils, vlt_int, vlt_bool, vlt_string, vlt_nilp, vlt_nils, vlt_ptr, vlt_sl, vlt_agg, vlt_func, List.toArray, Bool.and_true, Bool.true_and, Bool.and_self, Bool.and_eq_true, decide_eq_true_eq, and_true, true_and, new_c, upd_c, relock_c] <;> omega)) )); done) | (with_reducible refine Gd.upd ?_ (by (first | fail)) (by (simp only [objLt_row, objLt_dead, List.all_cons, List.all_nil, vlt1_int, vlt1_bool, vlt1_string, vlt1_nilp, vlt1_nils, vlt1_ptr, vlt1_sl, vlt1_func, vlt0_ptr, vlt0_sl, vlt0_int, vlt0_bool, vlt0_string, vlt0_nilp, vlt0_nils, vlt_int, vlt_bool, vlt_string, vlt_nilp, vlt_nils, vlt_ptr, vlt_sl, vlt_agg, vlt_func, List.toArray, Bool.and_true, Bool.true_and, Bool.and_self, Bool.and_eq_true, decide_eq_true_eq, and_true, true_and, new_c, upd_c, relock_c] <;> omega)); (repeat (first | refine Gd.upd ?_ (by (first | fail)) (by (simp only [objLt_row, objLt_dead, List.all_cons, List.all_nil, vlt1_int, vlt1_bool, vlt1_string, vlt1_nilp, vlt1_nils, vlt1_ptr, vlt1_sl, vlt1_func, vlt0_ptr, vlt0_sl, vlt0_int, vlt0_bool, vlt0_string, vlt0_nilp, vlt0_nils, vlt_int, vlt_bool, vlt_string, vlt_nilp, vlt_nils, vlt_ptr, vlt_sl, vlt_agg, vlt_func, List.toArray, Bool.and_true, Bool.true_and, Bool.and_self, Bool.and_eq_true, decide_eq_true_eq, and_true, true_and, new_c, upd_c, relock_c] <;> omega)) )); done) | (with_reducible refine Gd.relock2 ?_ ?_; rotate_left; simp only [new_c, upd_c, relock_c]; (repeat (first | refine Gd.upd ?_ (by (first | fail)) (by (simp only [objLt_row, objLt_dead, List.all_cons, List.all_nil, vlt1_int, vlt1_bool, vlt1_string, vlt1_nilp, vlt1_nils, vlt1_ptr, vlt1_sl, vlt1_func, vlt0_ptr, vlt0_sl, vlt0_int, vlt0_bool, vlt0_string, vlt0_nilp, vlt0_nils, vlt_int, vlt_bool, vlt_string, vlt_nilp, vlt_nils, vlt_ptr, vlt_sl, vlt_agg, vlt_func, List.toArray, Bool.and_true, Bool.true_and, Bool.and_self, Bool.and_eq_true, decide_eq_true_eq, and_true, true_and, new_c, upd_c, relock_c] <;> omega)) )); done) | (with_reducible refine nat_eq_id ?_; first | fail) | (with_reducible refine Rd.low (by with_reducible assumption) ?_; (repeat (first | refine Low.upd ?_ (by (first | fail)) _)); done) | ((first | fail); simp only [IsT, decide_eq_true_eq, Bool.and_eq_true, Bool.or_eq_true, Bool.not_eq_true', decide_eq_false_iff_not] at *; omega) | fail))) only [hx6, k21_111010_0, ↓bindV_some, ↓bindO_some, ↓condB_true, ↓condB_false, bindV_some, bindO_some, ↓condK_B, bin_lss, cast0, eq_self, bindO_bindO, decide_true, decide_false, List.drop_zero, Nat.reduceAdd, Nat.reduceSub, Nat.reduceMul, Nat.reduceLeDiff, Nat.reduceLT, Nat.reduceEqDiff, Int.reduceLE, Int.reduceLT, Int.reduceAdd, Int.reduceNeg, Int.reduceEq, Int.reduceSub, Int.reduceMul, Int.reduceToNat, ↓reduceIte, reduceCtorEq]
  | succ n ih =>
    intro h hn y1 y2 y28
    have hx : (h : Int) < 6 := by omega
    have hlt := ofA_lt l h
    have hp : 2 ^ h ≤ 2 ^ 5 := Nat.pow_le_pow_right (by omega) (by omega)
    have si := of_inner g l hlen rd h (ofA l h) (2 ^ h) (2 ^ (h + 1)) (by omega) (by omega) (m2 h (by omega)) l.length 0 (by omega)
    rw [cast0, List.drop_zero] at si
    have ih := ih (h + 1) (by omega)
    rw [ofA] at ih
    generalize 2 ^ (h + 1) = z1 at *
    generalize 2 ^ h = z at *
    have hN := g.n; have hL : S.lock ≤ S.c := g.ok.1
    rw [r21_111010]
    simp -implicitDefEqProofs (maxSteps := 1000000) (disch := (refine id ?_; first | ((first | fail); (first | fail)) | ((fail_if_success (with_reducible apply isT_of)); (fail_if_success (first | fail)); first | (with_reducible refine Low.new ?_ _; (repeat (first | refine Low.upd ?_ (by (first | fail)) _)); done) | (with_reducible refine Low.upd ?_ (by (first | fail)) _; (repeat (first | refine Low.upd ?_ (by (first | fail)) _)); done) | (with_reducible refine Gd.new ?_ (by (simp only [objLt_row, objLt_dead, List.all_cons, List.all_nil, vlt1_int, vlt1_bool, vlt1_string, vlt1_nilp, vlt1_nils, vlt1_ptr, vlt1_sl, vlt1_func, vlt0_ptr, vlt0_sl, vlt0_int, vlt0_bool, vlt0_string, vlt0_nilp, vlt0_nils, vlt_int, vlt_bool, vlt_string, vlt_nilp, vlt_nils, vlt_ptr, vlt_sl, vlt_agg, vlt_func, List.toArray, Bool.and_true, Bool.true_and, Bool.and_self, Bool.and_eq_true, decide_eq_true_eq, and_true, true_and, new_c, upd_c, relock_c] <;> omega)); (repeat (first | refine Gd.upd ?_ (by (first | fail)) (by (simp only [objLt_row, objLt_dead, List.all_cons, List.all_nil, vlt1_int, vlt1_bool, vlt1_string, vlt1_nilp, vlt1_nils, vlt1_ptr, vlt1_sl, vlt1_func, vlt0_ptr, vlt0_sl, vlt0_int, vlt0_bool, vlt0_string, vlt0_nilp, vlt0_nils, vlt_int, vlt_bool, vlt_string, vlt_nilp, vlt_nils, vlt_ptr, vlt_sl, vlt_agg, vlt_func, List.toArray, Bool.and_true, Bool.true_and, Bool.and_self, Bool.and_eq_true, decide_eq_true_eq, and_true, true_and, new_c, upd_c, relock_c] <;> omega)) )); done) | (with_reducible refine Gd.upd ?_ (by (first | fail)) (by (simp only [objLt_row, objLt_dead, List.all_cons, List.all_nil, vlt1_int, vlt1_bool, vlt1_string, vlt1_nilp, vlt1_nils, vlt1_ptr, vlt1_sl, vlt1_func, vlt0_ptr, vlt0_sl, vlt0_int, vlt0_bool, vlt0_string, vlt0_nilp, vlt0_nils, vlt_int, vlt_bool, vlt_string, vlt_nilp, vlt_nils, vlt_ptr, vlt_sl, vlt_agg, vlt_func, List.toArray, Bool.and_true, Bool.true_and, Bool.and_self, Bool.and_eq_true, decide_eq_true_eq, and_true, true_and, new_c, upd_c, relock_c] <;> omega)); (repeat (first | refine Gd.upd ?_ (by (first | fail)) (by (simp only [objLt_row, objLt_dead, List.all_cons, List.all_nil, vlt1_int, vlt1_bool, vlt1_string, vlt1_nilp, vlt1_nils, vlt1_ptr, vlt1_sl, vlt1_func, vlt0_ptr, vlt0_sl, vlt0_int, vlt0_bool, vlt0_string, vlt0_nilp, vlt0_nils, vlt_int, vlt_bool, vlt_string, vlt_nilp, vlt_nils, vlt_ptr, vlt_sl, vlt_agg, vlt_func, List.toArray, Bool.and_true, Bool.true_and, Bool.and_self, Bool.and_eq_true, decide_eq_true_eq, and_true, true_and, new_c, upd_c, relock_c] <;> omega)) )); done) | (with_reducible refine Gd.relock2 ?_ ?_; rotate_left; simp only [new_c, upd_c, relock_c]; (repeat (first | refine Gd.upd ?_ (by (first | fail)) (by (simp only [objLt_row, objLt_dead, List.all_cons, List.all_nil, vlt1_int, vlt1_bool, vlt1_string, vlt1_nilp, vlt1_nils, vlt1_ptr, vlt1_sl, vlt1_func, vlt0_ptr, vlt0_sl, vlt0_int, vlt0_bool, vlt0_string, vlt0_nilp, vlt0_nils, vlt_int, vlt_bool, vlt_string, vlt_nilp, vlt_nils, vlt_ptr, vlt_sl, vlt_agg, vlt_func, List.toArray, Bool.and_true, Bool.true_and, Bool.and_self, Bool.and_eq_true, decide_eq_true_eq, and_true, true_and, new_c, upd_c, relock_c] <;> omega)) )); done) | (with_reducible refine nat_eq_id ?_; first | fail) | (with_reducible refine Rd.low (by with_reducible assumption) ?_; (repeat (first | refine Low.upd ?_ (by (first | fail)) _)); done) | ((first | fail); simp only [IsT, decide_eq_true_eq, Bool.and_eq_true, Bool.or_eq_true, Bool.not_eq_true', decide_eq_false_iff_not] at *; omega) | fail))) only [hx, ↓bindV_some, ↓bindO_some, ↓condB_true, ↓condB_false, bindV_some, bindO_some, ↓condK_B, bin_lss, cast0, eq_self, bindO_bindO, decide_true, decide_false, List.drop_zero, Nat.reduceAdd, Nat.reduceSub, Nat.reduceMul, Nat.reduceLeDiff, Nat.reduceLT, Nat.reduceEqDiff, Int.reduceLE, Int.reduceLT, Int.reduceAdd, Int.reduceNeg, Int.reduceEq, Int.reduceSub, Int.reduceMul, Int.reduceToNat, ↓reduceIte, reduceCtorEq]
    refine (si _ _ _ _ _ _ _ _ _).trans ?_
    by_cases hm : (h : Int) ∈ l
    · rw [if_pos hm] at ih ⊢
      exact ih _ _ _
    · rw [if_neg hm] at ih ⊢
      exact ih _ _ _
theorem Of_eq (g : Gd W S) (l : List Int) (hlen : l.length ≤ 2 ^ 60) {v : Value} (rd : Rd IT W S v l) : cw W 21 #[v] S = some (.int .u32 (ofA l 6 : Int), S) := by
  have ha : [v].all (vlt S.c) = true := by rw [List.all_cons, vlt_rd rd]; rfl
  have lp := of_outer g l hlen rd 6 0 rfl
  rw [cast0] at lp
  rw [eq21]
  refine gcR_wp (args := [_]) g ha rfl ?_
  exact Wp.of (lp _ _ _) ⟨rfl, Low.rfl' S⟩
theorem of_all : ∀ h : Nat, h ≤ 6 → ofA ((List.range h).map fun (i : Nat) => (i : Int)) 6 = 2 ^ h - 1 := by decide
theorem of_one : ∀ f : Nat, f < 6 → ofA [(f : Int)] 6 = 2 ^ f := by decide
end
end Go.Proofs.Yteofdikfdknpbaa.F
end
section
namespace Go.Proofs.Yteofdikfdknpbaa.F
open Go Go.Proofs.Yteofdikfdknpbaa.E
set_option linter.unusedVariables false
set_option linter.unusedSimpArgs false
section
variable {W : World} {S : St}
theorem elc57 : Elem p 64 3 (zeroOf p 3) 1 8 := elem_of (by kernel_rfl)
def ints (h : Nat) : List Int := (List.range h).map fun (i : Nat) => (i : Int)
theorem ints_succ (h : Nat) : ints (h + 1) = ints h ++ [(h : Int)] := by
  unfold ints
  rw [List.range_succ, List.map_append]
  rfl
theorem ints_len (h : Nat) : (ints h).length = h := by
  unfold ints
  rw [List.length_map, List.length_range]
set_option maxRecDepth 100000 in
theorem rfam_end (S0 : St) (hN0 : W.heap.size ≤ S0.c) (hL0 : S0.lock ≤ S0.c) (h : Nat) (y : Int) (hh : 1 ≤ h ∧ h ≤ 6) {b1 b2 : Nat} (h1 : S0.c ≤ b1) (h2 : S0.c ≤ b2) (h12 : b1 ≠ b2) (S : St) (g : Gd W S) (w : Low S0 S) (vd : Value) (svs : List Sv) (hsv : svs.map (·.l) = famD h) (rd : Rd VT W S vd svs) (h3 : ∀ s ∈ svs, Rd IT W S (.slice s.a s.n s.c) s.l) (nd : ∀ i, i ∈ blkOf vd → i ≠ b1 ∧ i ≠ b2) (n3 : ∀ s ∈ svs, ∀ i, i ∈ blkOf (.slice s.a s.n s.c) → i ≠ b1 ∧ i ≠ b2) {va ve : Value} (re : Rd NT W S ve (famE h (clampN y))) (ne : ∀ i, i ∈ blkOf ve → i ≠ b1 ∧ i ≠ b2) (hbx : S.heap b2 = .row (fcs h vd ve) 0) (hb1 : S.heap b1 = (.row [.int .i64 0, .int .i64 0, .int .i64 0, .int .i64 0, .int .i64 0, .slice none 0 0, .slice none 0 0, .slice none 0 0, .int .i64 0] 0)) (j : Nat) (hj : j = clampN y ∨ h ≤ 1) (y2 y3 y7 y10 y11 y12 y13 y14 y15 y16 y17 y18 y19 y20 y21 y22 y23 y24 y25 y26 y27 y28 y29 y30 y31 y32 y33 y34 y35 y36 y37 y72 : Value) :
    Wp (bindO (l14_111111010 W (.int .i64 (h : Int)) (.int .i64 y) y2 y3 (.pointer (some ⟨b1, 0, none⟩)) (.pointer (some ⟨b2, 0, none⟩)) va y7 (.int .i64 (j : Int)) y10 y11 y12 y13 y14 y15 y16 y17 y18 y19 y20 y21 y22 y23 y24 y25 y26 y27 y28 y29 y30 y31 y32 y33 y34 y35 y36 y37 y72 S) (kc W c14 [1, 1, 1, 1, 1, 1, 0, 1, 0] f14)) (fun r => ∃ q, r.1 = cvl (famC h (clampN y)) q ∧ Gd W r.2 ∧ Low S0 r.2 ∧ CfgAt W r.2 (famC h (clampN y)) q) := by
  have q1 := row_lt g.ok hb1
  have q2 := row_lt g.ok hbx
  have hWb1 : W.heap.size ≤ b1 := Nat.le_trans hN0 h1
  have hWb2 : W.heap.size ≤ b2 := Nat.le_trans hN0 h2
  have hLb1 : S.lock ≤ b1 := by rw [w.1]; exact Nat.le_trans hL0 h1
  have hLb2 : S.lock ≤ b2 := by rw [w.1]; exact Nat.le_trans hL0 h2
  have hub := rd.1
  have hue := re.1
  obtain ⟨ad, cd, rfl⟩ := rd.form
  obtain ⟨ae, ce, rfl⟩ := re.form
  have hsl : svs.length = (famD h).length := by rw [← hsv, List.length_map]
  have hn16 : clampN y ≤ 16 := by unfold clampN; split; omega; split <;> omega
  have hob : objLt S.c (.row (fcs h (.slice ad svs.length cd) (.slice ae (famE h (clampN y)).length ce)) 0) = true := by
    simp only [objLt_row, List.all_cons, List.all_nil, vlt1_int, hub, hue, vlt1_nils, Bool.and_self]
  have x : Ext [b1] S (S.upd b1 (.row (fcs h (.slice ad svs.length cd) (.slice ae (famE h (clampN y)).length ce)) 0)) := Ext.upd g.ok q1 hob
  have fin : Wp (some (.agg (fcs h (.slice ad svs.length cd) (.slice ae (famE h (clampN y)).length ce)).toArray, S.upd b1 (.row (fcs h (.slice ad svs.length cd) (.slice ae (famE h (clampN y)).length ce)) 0))) (fun r => ∃ q, r.1 = cvl (famC h (clampN y)) q ∧ Gd W r.2 ∧ Low S0 r.2 ∧ CfgAt W r.2 (famC h (clampN y)) q) := by
    refine ⟨_, rfl, ⟨ad, cd, ae, ce, none, 0⟩, ?_, x.good g, Low.ext w x (fun i hi => by rw [List.mem_singleton] at hi; omega), ?_⟩
    · rw [hsl]; rfl
    · have fB := famC_B h (clampN y) hh.2 hn16
      refine ⟨⟨svs, ?_, hsv, fun s hs => (h3 s hs).ext x fun i hi => ?_⟩, ?_, ?_, ?_, ?_, ?_, ?_, fB.et, fB.lt⟩
      · show Rd VT W _ (.slice ad (famD h).length cd) svs
        rw [← hsl]
        exact rd.ext x fun i hi => by rw [List.mem_singleton]; exact (nd i hi).1
      · rw [List.mem_singleton]; exact (n3 s hs i hi).1
      · exact re.ext x fun i hi => by rw [List.mem_singleton]; exact (ne i hi).1
      · exact rd_nil
      · have := fB.ld; omega
      · intro l hl; have := fB.ldd l hl; omega
      · have := fB.le; omega
      · exact Nat.zero_le _
  have hN := g.n; have hL : S.lock ≤ S.c := g.ok.1
  rw [r14_111111010]
  by_cases c1 : (j : Int) < y
  · by_cases c2 : (j : Int) < 16
    · have c3 : ¬ (1 : Int) < (h : Int) := by
        rcases hj with hj | hj
        · exfalso
          have hc : y ≤ (clampN y : Int) ∨ clampN y = 16 := by
            unfold clampN
            split
            · left; omega
            · split
              · right; rfl
              · left; omega
          omega
        · omega
      simp -implicitDefEqProofs (maxSteps := 1000000) (disch := (refine id ?_; first | ((first | fail); (first | fail)) | ((fail_if_success (with_reducible apply isT_of)); (fail_if_success (first | fail)); first | omega | (with_reducible refine Low.new ?_ _; (repeat (first | refine Low.upd ?_ (by (first | omega )) _)); done) | (with_reducible refine Low.upd ?_ (by (first | omega )) _; (repeat (first | refine Low.upd ?_ (by (first | omega )) _)); done) | (with_reducible refine Gd.new ?_ (by (simp only [objLt_row, objLt_dead, List.all_cons, List.all_nil, vlt1_int, vlt1_bool, vlt1_string, vlt1_nilp, vlt1_nils, vlt1_ptr, vlt1_sl, vlt1_func, vlt0_ptr, vlt0_sl, vlt0_int, vlt0_bool, vlt0_string, vlt0_nilp, vlt0_nils, vlt_int, vlt_bool, vlt_string, vlt_nilp, vlt_nils, vlt_ptr, vlt_sl, vlt_agg, vlt_func, List.toArray, Bool.and_true, Bool.true_and, Bool.and_self, Bool.and_eq_true, decide_eq_true_eq, and_true, true_and, new_c, upd_c, relock_c] <;> omega)); (repeat (first | refine Gd.upd ?_ (by (first | omega )) (by (simp only [objLt_row, objLt_dead, List.all_cons, List.all_nil, vlt1_int, vlt1_bool, vlt1_string, vlt1_nilp, vlt1_nils, vlt1_ptr, vlt1_sl, vlt1_func, vlt0_ptr, vlt0_sl, vlt0_int, vlt0_bool, vlt0_string, vlt0_nilp, vlt0_nils, vlt_int, vlt_bool, vlt_string, vlt_nilp, vlt_nils, vlt_ptr, vlt_sl, vlt_agg, vlt_func, List.toArray, Bool.and_true, Bool.true_and, Bool.and_self, Bool.and_eq_true, decide_eq_true_eq, and_true, true_and, new_c, upd_c, relock_c] <;> omega)) )); done) | (with_reducible refine Gd.upd ?_ (by (first | omega )) (by (simp only [objLt_row, objLt_dead, List.all_cons, List.all_nil, vlt1_int, vlt1_bool, vlt1_string, vlt1_nilp, vlt1_nils, vlt1_ptr, vlt1_sl, vlt1_func, vlt0_ptr, vlt0_sl, vlt0_int, vlt0_bool, vlt0_string, vlt0_nilp, vlt0_nils, vlt_int, vlt_bool, vlt_string, vlt_nilp, vlt_nils, vlt_ptr, vlt_sl, vlt_agg, vlt_func, List.toArray, Bool.and_true, Bool.true_and, Bool.and_self, Bool.and_eq_true, decide_eq_true_eq, and_true, true_and, new_c, upd_c, relock_c] <;> omega)); (repeat (first | refine Gd.upd ?_ (by (first | omega )) (by (simp only [objLt_row, objLt_dead, List.all_cons, List.all_nil, vlt1_int, vlt1_bool, vlt1_string, vlt1_nilp, vlt1_nils, vlt1_ptr, vlt1_sl, vlt1_func, vlt0_ptr, vlt0_sl, vlt0_int, vlt0_bool, vlt0_string, vlt0_nilp, vlt0_nils, vlt_int, vlt_bool, vlt_string, vlt_nilp, vlt_nils, vlt_ptr, vlt_sl, vlt_agg, vlt_func, List.toArray, Bool.and_true, Bool.true_and, Bool.and_self, Bool.and_eq_true, decide_eq_true_eq, and_true, true_and, new_c, upd_c, relock_c] <;> omega)) )); done) | (with_reducible refine Gd.relock2 ?_ ?_; rotate_left; simp only [new_c, upd_c, relock_c]; (repeat (first | refine Gd.upd ?_ (by (first | omega )) (by (simp only [objLt_row, objLt_dead, List.all_cons, List.all_nil, vlt1_int, vlt1_bool, vlt1_string, vlt1_nilp, vlt1_nils, vlt1_ptr, vlt1_sl, vlt1_func, vlt0_ptr, vlt0_sl, vlt0_int, vlt0_bool, vlt0_string, vlt0_nilp, vlt0_nils, vlt_int, vlt_bool, vlt_string, vlt_nilp, vlt_nils, vlt_ptr, vlt_sl, vlt_agg, vlt_func, List.toArray, Bool.and_true, Bool.true_and, Bool.and_self, Bool.and_eq_true, decide_eq_true_eq, and_true, true_and, new_c, upd_c, relock_c] <;> omega)) )); done) | (with_reducible refine nat_eq_id ?_; first | fail) | (with_reducible refine Rd.low (by with_reducible assumption) ?_; (repeat (first | refine Low.upd ?_ (by (first | omega )) _)); done) | ((first | fail); simp only [IsT, decide_eq_true_eq, Bool.and_eq_true, Bool.or_eq_true, Bool.not_eq_true', decide_eq_false_iff_not] at *; omega) | fail))) only [c1, c2, c3, hbx, hb1, k14_111111010_2, ↓bindV_some, ↓bindT_some, ↓bindO_some, ↓condB_false, wV_true, wV_false, ↓wO_true, ↓wO_false, bindV_some, bindT_some, bindO_some, ↓gV_t, wrap64, ↓condK_B, wO_true, wO_false, pick_bool, bin_add, bin_mul, bin_lss, bin_gtr, pick_false, cell_at, cells_at, put_cons, cellOf_row, cellsOf_row, putOf_row, nth_zero, nth_succ, aggOf_some, eq_self, upd_self, qS_true, splice_nil, splice_cons, decide_true, decide_false, and_self, Nat.zero_add, List.length_cons, List.length_nil, List.drop_zero, List.take_succ_cons, List.take_zero, List.set_cons_zero, List.set_cons_succ, List.all_cons, List.all_nil, storable_int, storable_slice, Bool.and_self, Nat.reduceAdd, Nat.reduceSub, Nat.reduceMul, Nat.reduceLeDiff, Nat.reduceLT, Nat.reduceEqDiff, Int.reduceLE, Int.reduceLT, Int.reduceAdd, Int.reduceNeg, Int.reduceEq, Int.reduceSub, Int.reduceMul, Int.reduceToNat, ↓reduceIte, Nat.le_refl, reduceCtorEq, call_21, ld_23, fa_26_6, ld_26, st_26]
      exact fin
    · simp -implicitDefEqProofs (maxSteps := 1000000) (disch := (refine id ?_; first | ((first | fail); (first | fail)) | ((fail_if_success (with_reducible apply isT_of)); (fail_if_success (first | fail)); first | omega | (with_reducible refine Low.new ?_ _; (repeat (first | refine Low.upd ?_ (by (first | omega )) _)); done) | (with_reducible refine Low.upd ?_ (by (first | omega )) _; (repeat (first | refine Low.upd ?_ (by (first | omega )) _)); done) | (with_reducible refine Gd.new ?_ (by (simp only [objLt_row, objLt_dead, List.all_cons, List.all_nil, vlt1_int, vlt1_bool, vlt1_string, vlt1_nilp, vlt1_nils, vlt1_ptr, vlt1_sl, vlt1_func, vlt0_ptr, vlt0_sl, vlt0_int, vlt0_bool, vlt0_string, vlt0_nilp, vlt0_nils, vlt_int, vlt_bool, vlt_string, vlt_nilp, vlt_nils, vlt_ptr, vlt_sl, vlt_agg, vlt_func, List.toArray, Bool.and_true, Bool.true_and, Bool.and_self, Bool.and_eq_true, decide_eq_true_eq, and_true, true_and, new_c, upd_c, relock_c] <;> omega)); (repeat (first | refine Gd.upd ?_ (by (first | omega )) (by (simp only [objLt_row, objLt_dead, List.all_cons, List.all_nil, vlt1_int, vlt1_bool, vlt1_string, vlt1_nilp, vlt1_nils, vlt1_ptr, vlt1_sl, vlt1_func, vlt0_ptr, vlt0_sl, vlt0_int, vlt0_bool, vlt0_string, vlt0_nilp, vlt0_nils, vlt_int, vlt_bool, vlt_string, vlt_nilp, vlt_nils, vlt_ptr, vlt_sl, vlt_agg, vlt_func, List.toArray, Bool.and_true, Bool.true_and, Bool.and_self, Bool.and_eq_true, decide_eq_true_eq, and_true, true_and, new_c, upd_c, relock_c] <;> omega)) )); done) | (with_reducible refine Gd.upd ?_ (by (first | omega )) (by (simp only [objLt_row, objLt_dead, List.all_cons, List.all_nil, vlt1_int, vlt1_bool, vlt1_string, vlt1_nilp, vlt1_nils, vlt1_ptr, vlt1_sl, vlt1_func, vlt0_ptr, vlt0_sl, vlt0_int, vlt0_bool, vlt0_string, vlt0_nilp, vlt0_nils, vlt_int, vlt_bool, vlt_string, vlt_nilp, vlt_nils, vlt_ptr, vlt_sl, vlt_agg, vlt_func, List.toArray, Bool.and_true, Bool.true_and, Bool.and_self, Bool.and_eq_true, decide_eq_true_eq, and_true, true_and, new_c, upd_c, relock_c] <;> omega)); (repeat (first | refine Gd.upd ?_ (by (first | omega )) (by (simp only [objLt_row, objLt_dead, List.all_cons, List.all_nil, vlt1_int, vlt1_bool, vlt1_string, vlt1_nilp, vlt1_nils, vlt1_ptr, vlt1_sl, vlt1_func, vlt0_ptr, vlt0_sl, vlt0_int, vlt0_bool, vlt0_string, vlt0_nilp, vlt0_nils, vlt_int, vlt_bool, vlt_string, vlt_nilp, vlt_nils, vlt_ptr, vlt_sl, vlt_agg, vlt_func, List.toArray, Bool.and_true, Bool.true_and, Bool.and_self, Bool.and_eq_true, decide_eq_true_eq, and_true, true_and, new_c, upd_c, relock_c] <;> omega)) )); done) | (with_reducible refine Gd.relock2 ?_ ?_; rotate_left; simp only [new_c, upd_c, relock_c]; (repeat (first | refine Gd.upd ?_ (by (first | omega )) (by (simp only [objLt_row, objLt_dead, List.all_cons, List.all_nil, vlt1_int, vlt1_bool, vlt1_string, vlt1_nilp, vlt1_nils, vlt1_ptr, vlt1_sl, vlt1_func, vlt0_ptr, vlt0_sl, vlt0_int, vlt0_bool, vlt0_string, vlt0_nilp, vlt0_nils, vlt_int, vlt_bool, vlt_string, vlt_nilp, vlt_nils, vlt_ptr, vlt_sl, vlt_agg, vlt_func, List.toArray, Bool.and_true, Bool.true_and, Bool.and_self, Bool.and_eq_true, decide_eq_true_eq, and_true, true_and, new_c, upd_c, relock_c] <;> omega)) )); done) | (with_reducible refine nat_eq_id ?_; first | fail) | (with_reducible refine Rd.low (by with_reducible assumption) ?_; (repeat (first | refine Low.upd ?_ (by (first | omega )) _)); done) | ((first | fail); simp only [IsT, decide_eq_true_eq, Bool.and_eq_true, Bool.or_eq_true, Bool.not_eq_true', decide_eq_false_iff_not] at *; omega) | fail))) only [c1, c2, hbx, hb1, k14_111111010_2, ↓bindV_some, ↓bindT_some, ↓bindO_some, ↓condB_false, wV_true, wV_false, ↓wO_true, ↓wO_false, bindV_some, bindT_some, bindO_some, ↓gV_t, wrap64, ↓condK_B, wO_true, wO_false, pick_bool, bin_add, bin_mul, bin_lss, bin_gtr, pick_false, cell_at, cells_at, put_cons, cellOf_row, cellsOf_row, putOf_row, nth_zero, nth_succ, aggOf_some, eq_self, upd_self, qS_true, splice_nil, splice_cons, decide_true, decide_false, and_self, Nat.zero_add, List.length_cons, List.length_nil, List.drop_zero, List.take_succ_cons, List.take_zero, List.set_cons_zero, List.set_cons_succ, List.all_cons, List.all_nil, storable_int, storable_slice, Bool.and_self, Nat.reduceAdd, Nat.reduceSub, Nat.reduceMul, Nat.reduceLeDiff, Nat.reduceLT, Nat.reduceEqDiff, Int.reduceLE, Int.reduceLT, Int.reduceAdd, Int.reduceNeg, Int.reduceEq, Int.reduceSub, Int.reduceMul, Int.reduceToNat, ↓reduceIte, Nat.le_refl, reduceCtorEq, call_21, ld_23, fa_26_6, ld_26, st_26]
      exact fin
  · simp -implicitDefEqProofs (maxSteps := 1000000) (disch := (refine id ?_; first | ((first | fail); (first | fail)) | ((fail_if_success (with_reducible apply isT_of)); (fail_if_success (first | fail)); first | omega | (with_reducible refine Low.new ?_ _; (repeat (first | refine Low.upd ?_ (by (first | omega )) _)); done) | (with_reducible refine Low.upd ?_ (by (first | omega )) _; (repeat (first | refine Low.upd ?_ (by (first | omega )) _)); done) | (with_reducible refine Gd.new ?_ (by (simp only [objLt_row, objLt_dead, List.all_cons, List.all_nil, vlt1_int, vlt1_bool, vlt1_string, vlt1_nilp, vlt1_nils, vlt1_ptr, vlt1_sl, vlt1_func, vlt0_ptr, vlt0_sl, vlt0_int, vlt0_bool, vlt0_string, vlt0_nilp, vlt0_nils, vlt_int, vlt_bool, vlt_string, vlt_nilp, vlt_nils, vlt_ptr, vlt_sl, vlt_agg, vlt_func, List.toArray, Bool.and_true, Bool.true_and, Bool.and_self, Bool.and_eq_true, decide_eq_true_eq, and_true, true_and, new_c, upd_c, relock_c] <;> omega)); (repeat (first | refine Gd.upd ?_ (by (first | omega )) (by (simp only [objLt_row, objLt_dead, List.all_cons, List.all_nil, vlt1_int, vlt1_bool, vlt1_string, vlt1_nilp, vlt1_nils, vlt1_ptr, vlt1_sl, vlt1_func, vlt0_ptr, vlt0_sl, vlt0_int, vlt0_bool, vlt0_string, vlt0_nilp, vlt0_nils, vlt_int, vlt_bool, vlt_string, vlt_nilp, vlt_nils, vlt_ptr, vlt_sl, vlt_agg, vlt_func, List.toArray, Bool.and_true, Bool.true_and, Bool.and_self, Bool.and_eq_true, decide_eq_true_eq, and_true, true_and, new_c, upd_c, relock_c] <;> omega)) )); done) | (with_reducible refine Gd.upd ?_ (by (first | omega )) (by (simp only [objLt_row, objLt_dead, List.all_cons, List.all_nil, vlt1_int, vlt1_bool, vlt1_string, vlt1_nilp, vlt1_nils, vlt1_ptr, vlt1_sl, vlt1_func, vlt0_ptr, vlt0_sl, vlt0_int, vlt0_bool, vlt0_string, vlt0_nilp, vlt0_nils, vlt_int, vlt_bool, vlt_string, vlt_nilp, vlt_nils, vlt_ptr, vlt_sl, vlt_agg, vlt_func, List.toArray, Bool.and_true, Bool.true_and, Bool.and_self, Bool.and_eq_true, decide_eq_true_eq, and_true, true_and, new_c, upd_c, relock_c] <;> omega)); (repeat (first | refine Gd.upd ?_ (by (first | omega )) (by (simp only [objLt_row, objLt_dead, List.all_cons, List.all_nil, vlt1_int, vlt1_bool, vlt1_string, vlt1_nilp, vlt1_nils, vlt1_ptr, vlt1_sl, vlt1_func, vlt0_ptr, vlt0_sl, vlt0_int, vlt0_bool, vlt0_string, vlt0_nilp, vlt0_nils, vlt_int, vlt_bool, vlt_string, vlt_nilp, vlt_nils, vlt_ptr, vlt_sl, vlt_agg, vlt_func, List.toArray, Bool.and_true, Bool.true_and, Bool.and_self, Bool.and_eq_true, decide_eq_true_eq, and_true, true_and, new_c, upd_c, relock_c] <;> omega)) )); done) | (with_reducible refine Gd.relock2 ?_ ?_; rotate_left; simp only [new_c, upd_c, relock_c]; (repeat (first | refine Gd.upd ?_ (by (first | omega )) (by (simp only [objLt_row, objLt_dead, List.all_cons, List.all_nil, vlt1_int, vlt1_bool, vlt1_string, vlt1_nilp, vlt1_nils, vlt1_ptr, vlt1_sl, vlt1_func, vlt0_ptr, vlt0_sl, vlt0_int, vlt0_bool, vlt0_string, vlt0_nilp, vlt0_nils, vlt_int, vlt_bool, vlt_string, vlt_nilp, vlt_nils, vlt_ptr, vlt_sl, vlt_agg, vlt_func, List.toArray, Bool.and_true, Bool.true_and, Bool.and_self, Bool.and_eq_true, decide_eq_true_eq, and_true, true_and, new_c, upd_c, relock_c] <;> omega)) )); done) | (with_reducible refine nat_eq_id ?_; first | fail) | (with_reducible refine Rd.low (by with_reducible assumption) ?_; (repeat (first | refine Low.upd ?_ (by (first | omega )) _)); done) | ((first | fail); simp only [IsT, decide_eq_true_eq, Bool.and_eq_true, Bool.or_eq_true, Bool.not_eq_true', decide_eq_false_iff_not] at *; omega) | fail))) only [c1, hbx, hb1, k14_111111010_2, ↓bindV_some, ↓bindT_some, ↓bindO_some, ↓condB_false, wV_true, wV_false, ↓wO_true, ↓wO_false, bindV_some, bindT_some, bindO_some, ↓gV_t, wrap64, ↓condK_B, wO_true, wO_false, pick_bool, bin_add, bin_mul, bin_lss, bin_gtr, pick_false, cell_at, cells_at, put_cons, cellOf_row, cellsOf_row, putOf_row, nth_zero, nth_succ, aggOf_some, eq_self, upd_self, qS_true, splice_nil, splice_cons, decide_true, decide_false, and_self, Nat.zero_add, List.length_cons, List.length_nil, List.drop_zero, List.take_succ_cons, List.take_zero, List.set_cons_zero, List.set_cons_succ, List.all_cons, List.all_nil, storable_int, storable_slice, Bool.and_self, Nat.reduceAdd, Nat.reduceSub, Nat.reduceMul, Nat.reduceLeDiff, Nat.reduceLT, Nat.reduceEqDiff, Int.reduceLE, Int.reduceLT, Int.reduceAdd, Int.reduceNeg, Int.reduceEq, Int.reduceSub, Int.reduceMul, Int.reduceToNat, ↓reduceIte, Nat.le_refl, reduceCtorEq, call_21, ld_23, fa_26_6, ld_26, st_26]
    exact fin
set_option maxRecDepth 100000 in
set_option maxHeartbeats 1000000 in
theorem rfam_loop2 (S0 : St) (hN0 : W.heap.size ≤ S0.c) (hL0 : S0.lock ≤ S0.c) (h : Nat) (y : Int) (hh : 1 ≤ h ∧ h ≤ 6) {b1 b2 : Nat} (h1 : S0.c ≤ b1) (h2 : S0.c ≤ b2) (h12 : b1 ≠ b2) {vd va : Value} (svs : List Sv) (hsv : svs.map (·.l) = famD h) (hvf : ∃ a n c, vd = .slice a n c) (nd : ∀ i, i ∈ blkOf vd → i ≠ b1 ∧ i ≠ b2) (n3 : ∀ s ∈ svs, ∀ i, i ∈ blkOf (.slice s.a s.n s.c) → i ≠ b1 ∧ i ≠ b2) (na : ∀ i, i ∈ blkOf va → i ≠ b1 ∧ i ≠ b2) (m : Nat) : ∀ (j : Nat) (hmj : m + j = clampN y) (S : St) (g : Gd W S) (w : Low S0 S) (rd : Rd VT W S vd svs) (h3 : ∀ s ∈ svs, Rd IT W S (.slice s.a s.n s.c) s.l) (ra : Rd IT W S va (ints h)) (ve : Value) (re : Sl NT S ve (famE h j)) (ne : ∀ i, i ∈ blkOf ve → i ≠ b1 ∧ i ≠ b2 ∧ S0.c ≤ i) (nde : ∀ i, i ∈ blkOf vd → i ∉ blkOf ve) (n3e : ∀ s ∈ svs, ∀ i, i ∈ blkOf (.slice s.a s.n s.c) → i ∉ blkOf ve) (nae : ∀ i, i ∈ blkOf va → i ∉ blkOf ve) (hbx : S.heap b2 = .row (fcs h vd ve) 0) (hb1 : S.heap b1 = (.row [.int .i64 0, .int .i64 0, .int .i64 0, .int .i64 0, .int .i64 0, .slice none 0 0, .slice none 0 0, .slice none 0 0, .int .i64 0] 0)) (y2 y3 y7 y10 y11 y12 y13 y14 y15 y16 y17 y18 y19 y20 y21 y22 y23 y24 y25 y26 y27 y28 y29 y30 y31 y32 y33 y34 y35 y36 y37 y72 : Value),
    Wp (bindO (l14_111111010 W (.int .i64 (h : Int)) (.int .i64 y) y2 y3 (.pointer (some ⟨b1, 0, none⟩)) (.pointer (some ⟨b2, 0, none⟩)) va y7 (.int .i64 (j : Int)) y10 y11 y12 y13 y14 y15 y16 y17 y18 y19 y20 y21 y22 y23 y24 y25 y26 y27 y28 y29 y30 y31 y32 y33 y34 y35 y36 y37 y72 S) (kc W c14 [1, 1, 1, 1, 1, 1, 0, 1, 0] f14)) (fun r => ∃ q, r.1 = cvl (famC h (clampN y)) q ∧ Gd W r.2 ∧ Low S0 r.2 ∧ CfgAt W r.2 (famC h (clampN y)) q) := by
  have hWb2 : W.heap.size ≤ b2 := Nat.le_trans hN0 h2
  have hn16 : clampN y ≤ 16 := by unfold clampN; split; omega; split <;> omega
  induction m with
  | zero =>
    intro j hmj S g w rd h3 ra ve re ne nde n3e nae hbx hb1 y2 y3 y7 y10 y11 y12 y13 y14 y15 y16 y17 y18 y19 y20 y21 y22 y23 y24 y25 y26 y27 y28 y29 y30 y31 y32 y33 y34 y35 y36 y37 y72
    have hjn : j = clampN y := by omega
    rw [hjn] at re
    exact rfam_end S0 hN0 hL0 h y hh h1 h2 h12 S g w vd svs hsv rd h3 nd n3 (re.rd g) (fun i hi => ⟨(ne i hi).1, (ne i hi).2.1⟩) hbx hb1 j (.inl hjn) _ _ _ _ _ _ _ _ _ _ _ _ _ _ _ _ _ _ _ _ _ _ _ _ _ _ _ _ _ _ _ _
  | succ m ih =>
    intro j hmj S g w rd h3 ra ve re ne nde n3e nae hbx hb1 y2 y3 y7 y10 y11 y12 y13 y14 y15 y16 y17 y18 y19 y20 y21 y22 y23 y24 y25 y26 y27 y28 y29 y30 y31 y32 y33 y34 y35 y36 y37 y72
    by_cases hg : 1 < h
    case neg =>
      have ee : famE h (clampN y) = famE h j := by unfold famE; rw [if_neg hg, if_neg hg]
      exact rfam_end S0 hN0 hL0 h y hh h1 h2 h12 S g w vd svs hsv rd h3 nd n3 (by rw [ee]; exact re.rd g) (fun i hi => ⟨(ne i hi).1, (ne i hi).2.1⟩) hbx hb1 j (.inr (by omega)) _ _ _ _ _ _ _ _ _ _ _ _ _ _ _ _ _ _ _ _ _ _ _ _ _ _ _ _ _ _ _ _
    have q1 := row_lt g.ok hb1
    have q2 := row_lt g.ok hbx
    have hLb2 : S.lock ≤ b2 := by rw [w.1]; exact Nat.le_trans hL0 h2
    have c1 : (j : Int) < y := by
      have : j < clampN y := by omega
      unfold clampN at this
      split at this
      · omega
      · split at this <;> omega
    have c2 : (j : Int) < 16 := by omega
    have c3 : (1 : Int) < (h : Int) := by omega
    have e2 : IntKind.i64.wrap ((j : Int) + 1) = ((j + 1 : Nat) : Int) := by rw [wrap64 (by omega) (by omega)]; omega
    have erem : aBin p .rem 3 (.int .i64 (j : Int)) (.int .i64 (h : Int)) = some (.int .i64 ((j % h : Nat) : Int)) := by
      rw [bin_rem _ _ _ _ (by omega)]; rfl
    have ih := ih (j + 1) (by omega)
    have hf : j % h < h := Nat.mod_lt _ (by omega)
    have hP1 : 2 ^ h ≤ 2 ^ 6 := Nat.pow_le_pow_right (by omega) hh.2
    have hP2 : 2 ^ (j % h + 1) ≤ 2 ^ h := Nat.pow_le_pow_right (by omega) (by omega)
    have hP3 : 0 < 2 ^ (j % h) := Nat.pow_pos (by omega)
    rw [Nat.pow_succ] at hP2
    have ew2 : IntKind.u32.wrap (((2 ^ h - 1 : Nat) : Int) - ((2 ^ (j % h) : Nat) : Int)) = ((2 ^ h - 1 - 2 ^ (j % h) : Nat) : Int) := by rw [wrapu32 (by omega) (by omega)]; omega
    have o1 : cw W 21 #[va] (S.relock S.c) = some (.int .u32 ((2 ^ h - 1 : Nat) : Int), S.relock S.c) := by
      have := Of_eq (S := S.relock S.c) g.relock (ints h) (by rw [ints_len]; omega) (show Rd IT W (S.relock S.c) va (ints h) from ra)
      rw [show ofA (ints h) 6 = 2 ^ h - 1 from of_all h hh.2] at this
      exact this
    have gF : Gd W (S.new (.row (IT.fl [((j % h : Nat) : Int)]) 0)) := g.new rfl
    have rF := rd_made (T := IT) gF (k := 0) [((j % h : Nat) : Int)] (n := 1) (c := 1) rfl (by simp) (by simp) g.n (new_self _)
    have o2 : cw W 21 #[.slice (some ⟨S.c, 0, none⟩) 1 1] ((S.new (.row [.int .i64 ((j % h : Nat) : Int)] 0)).relock (S.c + 1)) = some (.int .u32 ((2 ^ (j % h) : Nat) : Int), (S.new (.row [.int .i64 ((j % h : Nat) : Int)] 0)).relock (S.c + 1)) := by
      have := Of_eq (S := (S.new (.row (IT.fl [((j % h : Nat) : Int)]) 0)).relock (S.c + 1)) gF.relock [((j % h : Nat) : Int)] (by simp) (show Rd IT W ((S.new (.row (IT.fl [((j % h : Nat) : Int)]) 0)).relock (S.c + 1)) _ _ from rF)
      rw [of_one (j % h) (by omega)] at this
      exact this
    rw [famE_succ h j hg] at ih
    have hlen := famE_len h j hg
    obtain ⟨ad, nn, cd, rfl⟩ := hvf
    have hk0 := re
    obtain ⟨ae, ce, rfl⟩ := re.form
    generalize ((j % h : Nat) : Int) = fr at *
    generalize 2 ^ h - 1 - 2 ^ (j % h) = to at *
    generalize 2 ^ h - 1 = ph1 at *
    generalize 2 ^ (j % h) = pf at *
    have hN := g.n; have hL : S.lock ≤ S.c := g.ok.1
    rw [r14_111111010]
    simp -implicitDefEqProofs (maxSteps := 1000000) (disch := (refine id ?_; first | ((first | fail); (first | fail)) | ((fail_if_success (with_reducible apply isT_of)); (fail_if_success (first | fail)); first | omega | (with_reducible refine Low.new ?_ _; (repeat (first | refine Low.upd ?_ (by (first | omega )) _)); done) | (with_reducible refine Low.upd ?_ (by (first | omega )) _; (repeat (first | refine Low.upd ?_ (by (first | omega )) _)); done) | (with_reducible refine Gd.new ?_ (by (simp only [objLt_row, objLt_dead, List.all_cons, List.all_nil, vlt1_int, vlt1_bool, vlt1_string, vlt1_nilp, vlt1_nils, vlt1_ptr, vlt1_sl, vlt1_func, vlt0_ptr, vlt0_sl, vlt0_int, vlt0_bool, vlt0_string, vlt0_nilp, vlt0_nils, vlt_int, vlt_bool, vlt_string, vlt_nilp, vlt_nils, vlt_ptr, vlt_sl, vlt_agg, vlt_func, List.toArray, Bool.and_true, Bool.true_and, Bool.and_self, Bool.and_eq_true, decide_eq_true_eq, and_true, true_and, new_c, upd_c, relock_c] <;> omega)); (repeat (first | refine Gd.upd ?_ (by (first | omega )) (by (simp only [objLt_row, objLt_dead, List.all_cons, List.all_nil, vlt1_int, vlt1_bool, vlt1_string, vlt1_nilp, vlt1_nils, vlt1_ptr, vlt1_sl, vlt1_func, vlt0_ptr, vlt0_sl, vlt0_int, vlt0_bool, vlt0_string, vlt0_nilp, vlt0_nils, vlt_int, vlt_bool, vlt_string, vlt_nilp, vlt_nils, vlt_ptr, vlt_sl, vlt_agg, vlt_func, List.toArray, Bool.and_true, Bool.true_and, Bool.and_self, Bool.and_eq_true, decide_eq_true_eq, and_true, true_and, new_c, upd_c, relock_c] <;> omega)) )); done) | (with_reducible refine Gd.upd ?_ (by (first | omega )) (by (simp only [objLt_row, objLt_dead, List.all_cons, List.all_nil, vlt1_int, vlt1_bool, vlt1_string, vlt1_nilp, vlt1_nils, vlt1_ptr, vlt1_sl, vlt1_func, vlt0_ptr, vlt0_sl, vlt0_int, vlt0_bool, vlt0_string, vlt0_nilp, vlt0_nils, vlt_int, vlt_bool, vlt_string, vlt_nilp, vlt_nils, vlt_ptr, vlt_sl, vlt_agg, vlt_func, List.toArray, Bool.and_true, Bool.true_and, Bool.and_self, Bool.and_eq_true, decide_eq_true_eq, and_true, true_and, new_c, upd_c, relock_c] <;> omega)); (repeat (first | refine Gd.upd ?_ (by (first | omega )) (by (simp only [objLt_row, objLt_dead, List.all_cons, List.all_nil, vlt1_int, vlt1_bool, vlt1_string, vlt1_nilp, vlt1_nils, vlt1_ptr, vlt1_sl, vlt1_func, vlt0_ptr, vlt0_sl, vlt0_int, vlt0_bool, vlt0_string, vlt0_nilp, vlt0_nils, vlt_int, vlt_bool, vlt_string, vlt_nilp, vlt_nils, vlt_ptr, vlt_sl, vlt_agg, vlt_func, List.toArray, Bool.and_true, Bool.true_and, Bool.and_self, Bool.and_eq_true, decide_eq_true_eq, and_true, true_and, new_c, upd_c, relock_c] <;> omega)) )); done) | (with_reducible refine Gd.relock2 ?_ ?_; rotate_left; simp only [new_c, upd_c, relock_c]; (repeat (first | refine Gd.upd ?_ (by (first | omega )) (by (simp only [objLt_row, objLt_dead, List.all_cons, List.all_nil, vlt1_int, vlt1_bool, vlt1_string, vlt1_nilp, vlt1_nils, vlt1_ptr, vlt1_sl, vlt1_func, vlt0_ptr, vlt0_sl, vlt0_int, vlt0_bool, vlt0_string, vlt0_nilp, vlt0_nils, vlt_int, vlt_bool, vlt_string, vlt_nilp, vlt_nils, vlt_ptr, vlt_sl, vlt_agg, vlt_func, List.toArray, Bool.and_true, Bool.true_and, Bool.and_self, Bool.and_eq_true, decide_eq_true_eq, and_true, true_and, new_c, upd_c, relock_c] <;> omega)) )); done) | (with_reducible refine nat_eq_id ?_; first | fail) | (with_reducible refine Rd.low (by with_reducible assumption) ?_; (repeat (first | refine Low.upd ?_ (by (first | omega )) _)); done) | ((first | fail); simp only [IsT, decide_eq_true_eq, Bool.and_eq_true, Bool.or_eq_true, Bool.not_eq_true', decide_eq_false_iff_not] at *; omega) | fail))) only [c1, c2, c3, hbx, e2, erem, o1, o2, ew2, relock_back, ↓bindV_some, ↓bindS_some, ↓bindT_some, ↓condB_true, wV_true, ↓wO_true, bindV_some, bindS_some, bindT_some, ↓gV_t, wrap64, wrapu32, ↓condK_B, wO_true, pick_bool, bin_add, bin_sub, bin_mul, bin_lss, bin_gtr, cell_at, put_cons, cellOf_row, putOf_row, nth_zero, nth_succ, new_self, eq_self, new_c, new_lock, upd_self, relock_c, relock_new, bindO_bindS, true_or, relock2, relock_id, qS_true, unlock_some, splice_nil, splice_cons, decide_true, and_self, Nat.zero_add, List.length_cons, List.length_nil, List.set_cons_zero, List.set_cons_succ, List.all_cons, List.all_nil, storable_slice, Bool.and_self, Nat.reduceAdd, Nat.reduceSub, Nat.reduceMul, Nat.reduceLeDiff, Nat.reduceLT, Nat.reduceEqDiff, Int.reduceLE, Int.reduceLT, Int.reduceAdd, Int.reduceNeg, Int.reduceEq, Int.reduceSub, Int.reduceMul, Int.reduceToNat, Bool.true_or, ↓reduceIte, reduceCtorEq, call_21, ld_23, st_23, fa_26_6, bu_68_0_1_2_3, bs_23_1_0, bs_64_1_0]
    have gA : Gd W (S.new (.row (IT.fl [fr]) 0)) := g.new rfl
    have gB : Gd W ((S.new (.row (IT.fl [fr]) 0)).new (.row (NT.fl [(⟨fr, to, 10000 + 50000 * (j : Int), 64 + (j : Int)⟩ : En)]) 0)) := gA.new rfl
    refine Wp.grow (T := NT) (new := [(⟨fr, to, 10000 + 50000 * (j : Int), 64 + (j : Int)⟩ : En)]) gB elc23 ((hk0.new g.ok rfl).new gA.ok rfl) (src_made Try.underlying23 (sz := 4) (n := 1) gA (l := NT.fl [(⟨fr, to, 10000 + 50000 * (j : Int), 64 + (j : Int)⟩ : En)]) rfl (by decide) 0) rfl (by rw [hlen]; simp only [List.length_cons, List.length_nil]; omega) fun v' S' g' sl' x2 fr' => ?_
    have x1 := Ext.pre gA.ok (rfl : objLt ((S.new (.row (IT.fl [fr]) 0)).c + 1) (.row (NT.fl [(⟨fr, to, 10000 + 50000 * (j : Int), 64 + (j : Int)⟩ : En)]) 0) = true) x2
    have x := Ext.pre g.ok (rfl : objLt (S.c + 1) (.row (IT.fl [fr]) 0) = true) x1
    have hk1 := sl'
    have hv' := (sl'.rd g').1
    obtain ⟨a', c', rfl⟩ := sl'.form
    have q1' : b1 < S'.c := Nat.lt_of_lt_of_le q1 x.c
    have q2' : b2 < S'.c := Nat.lt_of_lt_of_le q2 x.c
    have hbx' : S'.heap b2 = _ := (x.same b2 q2 (fun hh => (ne b2 hh).2.1 rfl)).trans hbx
    have hb1' : S'.heap b1 = _ := (x.same b1 q1 (fun hh => (ne b1 hh).1 rfl)).trans hb1
    have hL' : S'.lock ≤ b2 := by rw [x.lock]; exact hLb2
    simp -implicitDefEqProofs (maxSteps := 1000000) (disch := (refine id ?_; first | ((first | fail); (first | fail)) | ((fail_if_success (with_reducible apply isT_of)); (fail_if_success (first | fail)); first | omega | (with_reducible refine Low.new ?_ _; (repeat (first | refine Low.upd ?_ (by (first | omega )) _)); done) | (with_reducible refine Low.upd ?_ (by (first | omega )) _; (repeat (first | refine Low.upd ?_ (by (first | omega )) _)); done) | (with_reducible refine Gd.new ?_ (by (simp only [objLt_row, objLt_dead, List.all_cons, List.all_nil, vlt1_int, vlt1_bool, vlt1_string, vlt1_nilp, vlt1_nils, vlt1_ptr, vlt1_sl, vlt1_func, vlt0_ptr, vlt0_sl, vlt0_int, vlt0_bool, vlt0_string, vlt0_nilp, vlt0_nils, vlt_int, vlt_bool, vlt_string, vlt_nilp, vlt_nils, vlt_ptr, vlt_sl, vlt_agg, vlt_func, List.toArray, Bool.and_true, Bool.true_and, Bool.and_self, Bool.and_eq_true, decide_eq_true_eq, and_true, true_and, new_c, upd_c, relock_c] <;> omega)); (repeat (first | refine Gd.upd ?_ (by (first | omega )) (by (simp only [objLt_row, objLt_dead, List.all_cons, List.all_nil, vlt1_int, vlt1_bool, vlt1_string, vlt1_nilp, vlt1_nils, vlt1_ptr, vlt1_sl, vlt1_func, vlt0_ptr, vlt0_sl, vlt0_int, vlt0_bool, vlt0_string, vlt0_nilp, vlt0_nils, vlt_int, vlt_bool, vlt_string, vlt_nilp, vlt_nils, vlt_ptr, vlt_sl, vlt_agg, vlt_func, List.toArray, Bool.and_true, Bool.true_and, Bool.and_self, Bool.and_eq_true, decide_eq_true_eq, and_true, true_and, new_c, upd_c, relock_c] <;> omega)) )); done) | (with_reducible refine Gd.upd ?_ (by (first | omega )) (by (simp only [objLt_row, objLt_dead, List.all_cons, List.all_nil, vlt1_int, vlt1_bool, vlt1_string, vlt1_nilp, vlt1_nils, vlt1_ptr, vlt1_sl, vlt1_func, vlt0_ptr, vlt0_sl, vlt0_int, vlt0_bool, vlt0_string, vlt0_nilp, vlt0_nils, vlt_int, vlt_bool, vlt_string, vlt_nilp, vlt_nils, vlt_ptr, vlt_sl, vlt_agg, vlt_func, List.toArray, Bool.and_true, Bool.true_and, Bool.and_self, Bool.and_eq_true, decide_eq_true_eq, and_true, true_and, new_c, upd_c, relock_c] <;> omega)); (repeat (first | refine Gd.upd ?_ (by (first | omega )) (by (simp only [objLt_row, objLt_dead, List.all_cons, List.all_nil, vlt1_int, vlt1_bool, vlt1_string, vlt1_nilp, vlt1_nils, vlt1_ptr, vlt1_sl, vlt1_func, vlt0_ptr, vlt0_sl, vlt0_int, vlt0_bool, vlt0_string, vlt0_nilp, vlt0_nils, vlt_int, vlt_bool, vlt_string, vlt_nilp, vlt_nils, vlt_ptr, vlt_sl, vlt_agg, vlt_func, List.toArray, Bool.and_true, Bool.true_and, Bool.and_self, Bool.and_eq_true, decide_eq_true_eq, and_true, true_and, new_c, upd_c, relock_c] <;> omega)) )); done) | (with_reducible refine Gd.relock2 ?_ ?_; rotate_left; simp only [new_c, upd_c, relock_c]; (repeat (first | refine Gd.upd ?_ (by (first | omega )) (by (simp only [objLt_row, objLt_dead, List.all_cons, List.all_nil, vlt1_int, vlt1_bool, vlt1_string, vlt1_nilp, vlt1_nils, vlt1_ptr, vlt1_sl, vlt1_func, vlt0_ptr, vlt0_sl, vlt0_int, vlt0_bool, vlt0_string, vlt0_nilp, vlt0_nils, vlt_int, vlt_bool, vlt_string, vlt_nilp, vlt_nils, vlt_ptr, vlt_sl, vlt_agg, vlt_func, List.toArray, Bool.and_true, Bool.true_and, Bool.and_self, Bool.and_eq_true, decide_eq_true_eq, and_true, true_and, new_c, upd_c, relock_c] <;> omega)) )); done) | (with_reducible refine nat_eq_id ?_; first | fail) | (with_reducible refine Rd.low (by with_reducible assumption) ?_; (repeat (first | refine Low.upd ?_ (by (first | omega )) _)); done) | ((first | fail); simp only [IsT, decide_eq_true_eq, Bool.and_eq_true, Bool.or_eq_true, Bool.not_eq_true', decide_eq_false_iff_not] at *; omega) | fail))) only [hbx', ↓bindV_some, ↓bindS_some, ↓bindT_some, ↓condB_true, wV_true, ↓wO_true, bindV_some, bindS_some, bindT_some, ↓gV_t, wrap64, wrapu32, ↓condK_B, wO_true, pick_bool, bin_add, bin_sub, bin_mul, bin_lss, bin_gtr, cell_at, put_cons, cellOf_row, putOf_row, nth_zero, nth_succ, new_self, eq_self, new_c, new_lock, upd_self, relock_c, relock_new, bindO_bindS, true_or, relock2, relock_id, qS_true, unlock_some, splice_nil, splice_cons, decide_true, and_self, Nat.zero_add, List.length_cons, List.length_nil, List.set_cons_zero, List.set_cons_succ, List.all_cons, List.all_nil, storable_slice, Bool.and_self, Nat.reduceAdd, Nat.reduceSub, Nat.reduceMul, Nat.reduceLeDiff, Nat.reduceLT, Nat.reduceEqDiff, Int.reduceLE, Int.reduceLT, Int.reduceAdd, Int.reduceNeg, Int.reduceEq, Int.reduceSub, Int.reduceMul, Int.reduceToNat, Bool.true_or, ↓reduceIte, reduceCtorEq, call_21, ld_23, st_23, fa_26_6, bu_68_0_1_2_3, bs_23_1_0, bs_64_1_0]
    have hd' := vlt1_mono x.c rd.1
    have hob : objLt S'.c (.row (fcs h (.slice ad nn cd) (.slice a' (famE h j ++ [(⟨fr, to, 10000 + 50000 * (j : Int), 64 + (j : Int)⟩ : En)]).length c')) 0) = true := by
      simp only [objLt_row, List.all_cons, List.all_nil, vlt1_int, hd', hv', vlt1_nils, Bool.and_self]
    have x3 : Ext [b2] S' _ := Ext.upd g'.ok q2' hob
    have fr2 : ∀ i, i ∈ blkOf (.slice a' (famE h j ++ [(⟨fr, to, 10000 + 50000 * (j : Int), 64 + (j : Int)⟩ : En)]).length c') → i ≠ b1 ∧ i ≠ b2 ∧ S.c ≤ i := fun i hi => by
      have := fr' i hi
      simp only [new_c] at this
      exact ⟨by omega, by omega, by omega⟩
    refine ih _ (x3.good g') (Low.ext (Low.ext w x (fun i hi => (ne i hi).2.2)) x3 (fun i hi => by rw [List.mem_singleton] at hi; omega)) ((rd.ext x nde).ext x3 fun i hi => by rw [List.mem_singleton]; exact (nd i hi).2) (fun s hs => ((h3 s hs).ext x (n3e s hs)).ext x3 fun i hi => by rw [List.mem_singleton]; exact (n3 s hs i hi).2) ((ra.ext x nae).ext x3 fun i hi => by rw [List.mem_singleton]; exact (na i hi).2) _ (hk1.keep x3 (fun i hi => by rw [List.mem_singleton]; exact (fr2 i hi).2.1) g'.ok) (fun i hi => ⟨(fr2 i hi).1, (fr2 i hi).2.1, by have := (fr2 i hi).2.2; have := w.2.1; omega⟩) (fun i hi h' => by have := rd.lt i hi; have := (fr2 i h').2.2; omega) (fun s hs i hi h' => by have := (h3 s hs).lt i hi; have := (fr2 i h').2.2; omega) (fun i hi h' => by have := ra.lt i hi; have := (fr2 i h').2.2; omega) (upd_self _ _) ((upd_ne _ h12).trans hb1') _ _ _ _ _ _ _ _ _ _ _ _ _ _ _ _ _ _ _ _ _ _ _ _ _ _ _ _ _ _ _ _
end
end Go.Proofs.Yteofdikfdknpbaa.F
end
section
namespace Go.Proofs.Yteofdikfdknpbaa.F
open Go Go.Proofs.Yteofdikfdknpbaa.E
set_option linter.unusedVariables false
set_option linter.unusedSimpArgs false
section
variable {W : World} {S : St}
set_option maxRecDepth 100000 in
set_option maxHeartbeats 1000000 in
theorem rfam_loop1 (S0 : St) (hN0 : W.heap.size ≤ S0.c) (hL0 : S0.lock ≤ S0.c) (h : Nat) (y : Int) (hh : 1 ≤ h ∧ h ≤ 6) {b1 b2 : Nat} (h1 : S0.c ≤ b1) (h2 : S0.c ≤ b2) (h12 : b1 ≠ b2) (m : Nat) : ∀ (j : Nat) (hmj : m + j = h) (S : St) (g : Gd W S) (w : Low S0 S) (svs : List Sv) (hsv : svs.map (·.l) = famD j) (vd : Value) (sd : Sl VT S vd svs) (h3 : ∀ s ∈ svs, Rd IT W S (.slice s.a s.n s.c) s.l) (nd : ∀ i, i ∈ blkOf vd → i ≠ b1 ∧ i ≠ b2 ∧ S0.c ≤ i) (n3 : ∀ s ∈ svs, ∀ i, i ∈ blkOf (.slice s.a s.n s.c) → i ≠ b1 ∧ i ≠ b2 ∧ i ∉ blkOf vd) (va : Value) (sa : Sl IT S va (ints j)) (na : ∀ i, i ∈ blkOf va → i ≠ b1 ∧ i ≠ b2 ∧ S0.c ≤ i) (nad : ∀ i, i ∈ blkOf vd → i ∉ blkOf va) (n3a : ∀ s ∈ svs, ∀ i, i ∈ blkOf (.slice s.a s.n s.c) → i ∉ blkOf va) (hbx : S.heap b2 = .row (fcs h vd (.slice none 0 0)) 0) (hb1 : S.heap b1 = (.row [.int .i64 0, .int .i64 0, .int .i64 0, .int .i64 0, .int .i64 0, .slice none 0 0, .slice none 0 0, .slice none 0 0, .int .i64 0] 0)) (y2 y3 y8 y9 y10 y11 y12 y13 y14 y15 y38 y39 y40 y41 y42 y43 y44 y45 y46 y47 y48 y49 y50 y51 y52 y53 y54 y55 y56 y57 y58 y59 y60 y61 y62 y63 y64 y65 y66 y67 y68 y69 y70 y71 y72 : Value),
    Wp (bindO (l14_11111010 W (.int .i64 (h : Int)) (.int .i64 y) y2 y3 (.pointer (some ⟨b1, 0, none⟩)) (.pointer (some ⟨b2, 0, none⟩)) va (.int .i64 (j : Int)) y8 y9 y10 y11 y12 y13 y14 y15 y38 y39 y40 y41 y42 y43 y44 y45 y46 y47 y48 y49 y50 y51 y52 y53 y54 y55 y56 y57 y58 y59 y60 y61 y62 y63 y64 y65 y66 y67 y68 y69 y70 y71 y72 S) (kc W c14 [1, 1, 1, 1, 1, 0, 1, 0] f14)) (fun r => ∃ q, r.1 = cvl (famC h (clampN y)) q ∧ Gd W r.2 ∧ Low S0 r.2 ∧ CfgAt W r.2 (famC h (clampN y)) q) := by
  have hWb2 : W.heap.size ≤ b2 := Nat.le_trans hN0 h2
  induction m with
  | zero =>
    intro j hmj S g w svs hsv vd sd h3 nd n3 va sa na nad n3a hbx hb1 y2 y3 y8 y9 y10 y11 y12 y13 y14 y15 y38 y39 y40 y41 y42 y43 y44 y45 y46 y47 y48 y49 y50 y51 y52 y53 y54 y55 y56 y57 y58 y59 y60 y61 y62 y63 y64 y65 y66 y67 y68 y69 y70 y71 y72
    have hjh : j = h := by omega
    have hx : ¬ ((j : Int) < (h : Int)) := by omega
    rw [hjh] at hsv sa
    have hN := g.n; have hL : S.lock ≤ S.c := g.ok.1
    rw [r14_11111010]
    simp -implicitDefEqProofs (maxSteps := 1000000) (disch := (refine id ?_; first | ((first | fail); (first | fail)) | ((fail_if_success (with_reducible apply isT_of)); (fail_if_success (first | fail)); first | omega | (with_reducible refine Low.new ?_ _; (repeat (first | refine Low.upd ?_ (by (first | omega )) _)); done) | (with_reducible refine Low.upd ?_ (by (first | omega )) _; (repeat (first | refine Low.upd ?_ (by (first | omega )) _)); done) | (with_reducible refine Gd.new ?_ (by (simp only [objLt_row, objLt_dead, List.all_cons, List.all_nil, vlt1_int, vlt1_bool, vlt1_string, vlt1_nilp, vlt1_nils, vlt1_ptr, vlt1_sl, vlt1_func, vlt0_ptr, vlt0_sl, vlt0_int, vlt0_bool, vlt0_string, vlt0_nilp, vlt0_nils, vlt_int, vlt_bool, vlt_string, vlt_nilp, vlt_nils, vlt_ptr, vlt_sl, vlt_agg, vlt_func, List.toArray, Bool.and_true, Bool.true_and, Bool.and_self, Bool.and_eq_true, decide_eq_true_eq, and_true, true_and, new_c, upd_c, relock_c] <;> omega)); (repeat (first | refine Gd.upd ?_ (by (first | omega )) (by (simp only [objLt_row, objLt_dead, List.all_cons, List.all_nil, vlt1_int, vlt1_bool, vlt1_string, vlt1_nilp, vlt1_nils, vlt1_ptr, vlt1_sl, vlt1_func, vlt0_ptr, vlt0_sl, vlt0_int, vlt0_bool, vlt0_string, vlt0_nilp, vlt0_nils, vlt_int, vlt_bool, vlt_string, vlt_nilp, vlt_nils, vlt_ptr, vlt_sl, vlt_agg, vlt_func, List.toArray, Bool.and_true, Bool.true_and, Bool.and_self, Bool.and_eq_true, decide_eq_true_eq, and_true, true_and, new_c, upd_c, relock_c] <;> omega)) )); done) | (with_reducible refine Gd.upd ?_ (by (first | omega )) (by (simp only [objLt_row, objLt_dead, List.all_cons, List.all_nil, vlt1_int, vlt1_bool, vlt1_string, vlt1_nilp, vlt1_nils, vlt1_ptr, vlt1_sl, vlt1_func, vlt0_ptr, vlt0_sl, vlt0_int, vlt0_bool, vlt0_string, vlt0_nilp, vlt0_nils, vlt_int, vlt_bool, vlt_string, vlt_nilp, vlt_nils, vlt_ptr, vlt_sl, vlt_agg, vlt_func, List.toArray, Bool.and_true, Bool.true_and, Bool.and_self, Bool.and_eq_true, decide_eq_true_eq, and_true, true_and, new_c, upd_c, relock_c] <;> omega)); (repeat (first | refine Gd.upd ?_ (by (first | omega )) (by (simp only [objLt_row, objLt_dead, List.all_cons, List.all_nil, vlt1_int, vlt1_bool, vlt1_string, vlt1_nilp, vlt1_nils, vlt1_ptr, vlt1_sl, vlt1_func, vlt0_ptr, vlt0_sl, vlt0_int, vlt0_bool, vlt0_string, vlt0_nilp, vlt0_nils, vlt_int, vlt_bool, vlt_string, vlt_nilp, vlt_nils, vlt_ptr, vlt_sl, vlt_agg, vlt_func, List.toArray, Bool.and_true, Bool.true_and, Bool.and_self, Bool.and_eq_true, decide_eq_true_eq, and_true, true_and, new_c, upd_c, relock_c] <;> omega)) )); done) | (with_reducible refine Gd.relock2 ?_ ?_; rotate_left; simp only [new_c, upd_c, relock_c]; (repeat (first | refine Gd.upd ?_ (by (first | omega )) (by (simp only [objLt_row, objLt_dead, List.all_cons, List.all_nil, vlt1_int, vlt1_bool, vlt1_string, vlt1_nilp, vlt1_nils, vlt1_ptr, vlt1_sl, vlt1_func, vlt0_ptr, vlt0_sl, vlt0_int, vlt0_bool, vlt0_string, vlt0_nilp, vlt0_nils, vlt_int, vlt_bool, vlt_string, vlt_nilp, vlt_nils, vlt_ptr, vlt_sl, vlt_agg, vlt_func, List.toArray, Bool.and_true, Bool.true_and, Bool.and_self, Bool.and_eq_true, decide_eq_true_eq, and_true, true_and, new_c, upd_c, relock_c] <;> omega)) )); done) | (with_reducible refine nat_eq_id ?_; first | fail) | (with_reducible refine Rd.low (by with_reducible assumption) ?_; (repeat (first | refine Low.upd ?_ (by (first | omega )) _)); done) | ((first | fail); simp only [IsT, decide_eq_true_eq, Bool.and_eq_true, Bool.or_eq_true, Bool.not_eq_true', decide_eq_false_iff_not] at *; omega) | fail))) only [hx, k14_11111010_0, ↓bindV_some, ↓bindS_some, ↓bindT_some, ↓bindO_some, ↓condB_true, ↓condB_false, bindV_some, bindS_some, bindT_some, bindO_some, wrap64, ↓condK_B, bin_add, bin_mul, bin_lss, cell_at, put_cons, cellOf_row, putOf_row, nth_zero, nth_succ, new_self, cast0, eq_self, new_lo, new_c, upd_self, upd_c, bindO_bindS, true_or, splice_nil, splice_cons, decide_true, decide_false, and_self, Nat.zero_add, List.length_cons, List.length_nil, List.set_cons_zero, List.set_cons_succ, List.all_cons, List.all_nil, storable_slice, Bool.and_self, Nat.reduceAdd, Nat.reduceSub, Nat.reduceMul, Nat.reduceLeDiff, Nat.reduceLT, Nat.reduceEqDiff, Int.reduceLE, Int.reduceLT, Int.reduceAdd, Int.reduceNeg, Int.reduceEq, Int.reduceSub, Int.reduceMul, Int.reduceToNat, Bool.true_or, ↓reduceIte, reduceCtorEq, ld_22, st_22, fa_26_5, bs_22_1_0, bs_64_1_0, bs_65_2_0_1]
    have e0 : famE h 0 = [] := by unfold famE; split <;> rfl
    have lp := fun y2 y3 y7 y10 y11 y12 y13 y14 y15 y16 y17 y18 y19 y20 y21 y22 y23 y24 y25 y26 y27 y28 y29 y30 y31 y32 y33 y34 y35 y36 y37 y72 => rfam_loop2 S0 hN0 hL0 h y hh h1 h2 h12 svs hsv (by obtain ⟨a, c, e⟩ := sd.form; exact ⟨a, _, c, e⟩) (fun i hi => ⟨(nd i hi).1, (nd i hi).2.1⟩) (fun s hs i hi => ⟨(n3 s hs i hi).1, (n3 s hs i hi).2.1⟩) (fun i hi => ⟨(na i hi).1, (na i hi).2.1⟩) (clampN y) 0 rfl S g w (sd.rd g) h3 (sa.rd g) (.slice none 0 0) (by rw [e0]; exact sl_nil) (fun i hi => by cases hi) (fun i hi h' => by cases h') (fun s hs i hi h' => by cases h') (fun i hi h' => by cases h') hbx hb1 y2 y3 y7 y10 y11 y12 y13 y14 y15 y16 y17 y18 y19 y20 y21 y22 y23 y24 y25 y26 y27 y28 y29 y30 y31 y32 y33 y34 y35 y36 y37 y72
    rw [cast0] at lp
    exact lp _ _ _ _ _ _ _ _ _ _ _ _ _ _ _ _ _ _ _ _ _ _ _ _ _ _ _ _ _ _ _ _
  | succ m ih =>
    intro j hmj S g w svs hsv vd sd h3 nd n3 va sa na nad n3a hbx hb1 y2 y3 y8 y9 y10 y11 y12 y13 y14 y15 y38 y39 y40 y41 y42 y43 y44 y45 y46 y47 y48 y49 y50 y51 y52 y53 y54 y55 y56 y57 y58 y59 y60 y61 y62 y63 y64 y65 y66 y67 y68 y69 y70 y71 y72
    have q1 := row_lt g.ok hb1
    have q2 := row_lt g.ok hbx
    have hLb2 : S.lock ≤ b2 := by rw [w.1]; exact Nat.le_trans hL0 h2
    have hx : (j : Int) < (h : Int) := by omega
    have e2 : IntKind.i64.wrap ((j : Int) + 1) = (j : Int) + 1 := wrap64 (by omega) (by omega)
    have ec : ((j + 1 : Nat) : Int) = (j : Int) + 1 := by omega
    have ih := ih (j + 1) (by omega)
    rw [famD_succ, ec] at ih
    have hlen : svs.length = j := by rw [← famD_len j, ← hsv, List.length_map]
    have hdb := fun i (hi : i ∈ blkOf vd) => sd.lt g.ok i hi
    have hab := fun i (hi : i ∈ blkOf va) => sa.lt g.ok i hi
    have hk0 := sd
    have ha0 := sa
    obtain ⟨ad, cd, rfl⟩ := sd.form
    obtain ⟨aa, ca, rfl⟩ := sa.form
    have g1 : Gd W (S.new (.row (IT.fl [100 * ((j : Int) + 1), 100 * ((j : Int) + 1) + 50]) 0)) := g.new rfl
    have hcl2 : (VT.fl [(⟨some ⟨S.c, 0, none⟩, 2, 2, [100 * ((j : Int) + 1), 100 * ((j : Int) + 1) + 50]⟩ : Sv)]).all (vlt1 (S.c + 1)) = true := by
      show [Value.slice (some ⟨S.c, 0, none⟩) 2 2].all (vlt1 (S.c + 1)) = true
      simp
    have ho2 : objLt ((S.new (.row (IT.fl [100 * ((j : Int) + 1), 100 * ((j : Int) + 1) + 50]) 0)).c + 1) (.row (VT.fl [(⟨some ⟨S.c, 0, none⟩, 2, 2, [100 * ((j : Int) + 1), 100 * ((j : Int) + 1) + 50]⟩ : Sv)]) 0) = true := by
      rw [objLt_row]
      exact List.all_eq_true.2 fun x hx => vlt1_mono (by simp only [new_c]; omega) (List.all_eq_true.1 hcl2 x hx)
    have g2 : Gd W ((S.new (.row (IT.fl [100 * ((j : Int) + 1), 100 * ((j : Int) + 1) + 50]) 0)).new (.row (VT.fl [(⟨some ⟨S.c, 0, none⟩, 2, 2, [100 * ((j : Int) + 1), 100 * ((j : Int) + 1) + 50]⟩ : Sv)]) 0)) := g1.new ho2
    have hN := g.n; have hL : S.lock ≤ S.c := g.ok.1
    rw [r14_11111010]
    simp -implicitDefEqProofs (maxSteps := 1000000) (disch := (refine id ?_; first | ((first | fail); (first | fail)) | ((fail_if_success (with_reducible apply isT_of)); (fail_if_success (first | fail)); first | omega | (with_reducible refine Low.new ?_ _; (repeat (first | refine Low.upd ?_ (by (first | omega )) _)); done) | (with_reducible refine Low.upd ?_ (by (first | omega )) _; (repeat (first | refine Low.upd ?_ (by (first | omega )) _)); done) | (with_reducible refine Gd.new ?_ (by (simp only [objLt_row, objLt_dead, List.all_cons, List.all_nil, vlt1_int, vlt1_bool, vlt1_string, vlt1_nilp, vlt1_nils, vlt1_ptr, vlt1_sl, vlt1_func, vlt0_ptr, vlt0_sl, vlt0_int, vlt0_bool, vlt0_string, vlt0_nilp, vlt0_nils, vlt_int, vlt_bool, vlt_string, vlt_nilp, vlt_nils, vlt_ptr, vlt_sl, vlt_agg, vlt_func, List.toArray, Bool.and_true, Bool.true_and, Bool.and_self, Bool.and_eq_true, decide_eq_true_eq, and_true, true_and, new_c, upd_c, relock_c] <;> omega)); (repeat (first | refine Gd.upd ?_ (by (first | omega )) (by (simp only [objLt_row, objLt_dead, List.all_cons, List.all_nil, vlt1_int, vlt1_bool, vlt1_string, vlt1_nilp, vlt1_nils, vlt1_ptr, vlt1_sl, vlt1_func, vlt0_ptr, vlt0_sl, vlt0_int, vlt0_bool, vlt0_string, vlt0_nilp, vlt0_nils, vlt_int, vlt_bool, vlt_string, vlt_nilp, vlt_nils, vlt_ptr, vlt_sl, vlt_agg, vlt_func, List.toArray, Bool.and_true, Bool.true_and, Bool.and_self, Bool.and_eq_true, decide_eq_true_eq, and_true, true_and, new_c, upd_c, relock_c] <;> omega)) )); done) | (with_reducible refine Gd.upd ?_ (by (first | omega )) (by (simp only [objLt_row, objLt_dead, List.all_cons, List.all_nil, vlt1_int, vlt1_bool, vlt1_string, vlt1_nilp, vlt1_nils, vlt1_ptr, vlt1_sl, vlt1_func, vlt0_ptr, vlt0_sl, vlt0_int, vlt0_bool, vlt0_string, vlt0_nilp, vlt0_nils, vlt_int, vlt_bool, vlt_string, vlt_nilp, vlt_nils, vlt_ptr, vlt_sl, vlt_agg, vlt_func, List.toArray, Bool.and_true, Bool.true_and, Bool.and_self, Bool.and_eq_true, decide_eq_true_eq, and_true, true_and, new_c, upd_c, relock_c] <;> omega)); (repeat (first | refine Gd.upd ?_ (by (first | omega )) (by (simp only [objLt_row, objLt_dead, List.all_cons, List.all_nil, vlt1_int, vlt1_bool, vlt1_string, vlt1_nilp, vlt1_nils, vlt1_ptr, vlt1_sl, vlt1_func, vlt0_ptr, vlt0_sl, vlt0_int, vlt0_bool, vlt0_string, vlt0_nilp, vlt0_nils, vlt_int, vlt_bool, vlt_string, vlt_nilp, vlt_nils, vlt_ptr, vlt_sl, vlt_agg, vlt_func, List.toArray, Bool.and_true, Bool.true_and, Bool.and_self, Bool.and_eq_true, decide_eq_true_eq, and_true, true_and, new_c, upd_c, relock_c] <;> omega)) )); done) | (with_reducible refine Gd.relock2 ?_ ?_; rotate_left; simp only [new_c, upd_c, relock_c]; (repeat (first | refine Gd.upd ?_ (by (first | omega )) (by (simp only [objLt_row, objLt_dead, List.all_cons, List.all_nil, vlt1_int, vlt1_bool, vlt1_string, vlt1_nilp, vlt1_nils, vlt1_ptr, vlt1_sl, vlt1_func, vlt0_ptr, vlt0_sl, vlt0_int, vlt0_bool, vlt0_string, vlt0_nilp, vlt0_nils, vlt_int, vlt_bool, vlt_string, vlt_nilp, vlt_nils, vlt_ptr, vlt_sl, vlt_agg, vlt_func, List.toArray, Bool.and_true, Bool.true_and, Bool.and_self, Bool.and_eq_true, decide_eq_true_eq, and_true, true_and, new_c, upd_c, relock_c] <;> omega)) )); done) | (with_reducible refine nat_eq_id ?_; first | fail) | (with_reducible refine Rd.low (by with_reducible assumption) ?_; (repeat (first | refine Low.upd ?_ (by (first | omega )) _)); done) | ((first | fail); simp only [IsT, decide_eq_true_eq, Bool.and_eq_true, Bool.or_eq_true, Bool.not_eq_true', decide_eq_false_iff_not] at *; omega) | fail))) only [hx, hbx, e2, ↓bindV_some, ↓bindS_some, ↓bindT_some, ↓bindO_some, ↓condB_true, ↓condB_false, bindV_some, bindS_some, bindT_some, bindO_some, wrap64, ↓condK_B, bin_add, bin_mul, bin_lss, cell_at, put_cons, cellOf_row, putOf_row, nth_zero, nth_succ, new_self, cast0, eq_self, new_lo, new_c, upd_self, upd_c, bindO_bindS, true_or, splice_nil, splice_cons, decide_true, decide_false, and_self, Nat.zero_add, List.length_cons, List.length_nil, List.set_cons_zero, List.set_cons_succ, List.all_cons, List.all_nil, storable_slice, Bool.and_self, Nat.reduceAdd, Nat.reduceSub, Nat.reduceMul, Nat.reduceLeDiff, Nat.reduceLT, Nat.reduceEqDiff, Int.reduceLE, Int.reduceLT, Int.reduceAdd, Int.reduceNeg, Int.reduceEq, Int.reduceSub, Int.reduceMul, Int.reduceToNat, Bool.true_or, ↓reduceIte, reduceCtorEq, ld_22, st_22, fa_26_5, bs_22_1_0, bs_64_1_0, bs_65_2_0_1]
    refine Wp.grow (T := VT) (new := [(⟨some ⟨S.c, 0, none⟩, 2, 2, [100 * ((j : Int) + 1), 100 * ((j : Int) + 1) + 50]⟩ : Sv)]) g2 elc22 ((hk0.new g.ok rfl).new g1.ok ho2) (src_made Try.underlying22 (sz := 1) (n := 1) g1 (l := VT.fl [(⟨some ⟨S.c, 0, none⟩, 2, 2, [100 * ((j : Int) + 1), 100 * ((j : Int) + 1) + 50]⟩ : Sv)]) rfl (by decide) 0) (List.all_eq_true.2 fun x hx => vlt1_mono (by simp only [new_c]; omega) (List.all_eq_true.1 hcl2 x hx)) (by rw [hlen]; simp only [List.length_cons, List.length_nil]; omega) fun v' S' g' sl' x2 fr' => ?_
    have x1 := Ext.pre g1.ok ho2 x2
    have x := Ext.pre g.ok (rfl : objLt (S.c + 1) (.row (IT.fl [100 * ((j : Int) + 1), 100 * ((j : Int) + 1) + 50]) 0) = true) x1
    have hk1 := sl'
    have hv' := (sl'.rd g').1
    obtain ⟨a', c', rfl⟩ := sl'.form
    have q1' : b1 < S'.c := Nat.lt_of_lt_of_le q1 x.c
    have q2' : b2 < S'.c := Nat.lt_of_lt_of_le q2 x.c
    have hbx' : S'.heap b2 = _ := (x.same b2 q2 (fun hh => (nd b2 hh).2.1 rfl)).trans hbx
    have hb1' : S'.heap b1 = _ := (x.same b1 q1 (fun hh => (nd b1 hh).1 rfl)).trans hb1
    have hL' : S'.lock ≤ b2 := by rw [x.lock]; exact hLb2
    simp -implicitDefEqProofs (maxSteps := 1000000) (disch := (refine id ?_; first | ((first | fail); (first | fail)) | ((fail_if_success (with_reducible apply isT_of)); (fail_if_success (first | fail)); first | omega | (with_reducible refine Low.new ?_ _; (repeat (first | refine Low.upd ?_ (by (first | omega )) _)); done) | (with_reducible refine Low.upd ?_ (by (first | omega )) _; (repeat (first | refine Low.upd ?_ (by (first | omega )) _)); done) | (with_reducible refine Gd.new ?_ (by (simp only [objLt_row, objLt_dead, List.all_cons, List.all_nil, vlt1_int, vlt1_bool, vlt1_string, vlt1_nilp, vlt1_nils, vlt1_ptr, vlt1_sl, vlt1_func, vlt0_ptr, vlt0_sl, vlt0_int, vlt0_bool, vlt0_string, vlt0_nilp, vlt0_nils, vlt_int, vlt_bool, vlt_string, vlt_nilp, vlt_nils, vlt_ptr, vlt_sl, vlt_agg, vlt_func, List.toArray, Bool.and_true, Bool.true_and, Bool.and_self, Bool.and_eq_true, decide_eq_true_eq, and_true, true_and, new_c, upd_c, relock_c] <;> omega)); (repeat (first | refine Gd.upd ?_ (by (first | omega )) (by (simp only [objLt_row, objLt_dead, List.all_cons, List.all_nil, vlt1_int, vlt1_bool, vlt1_string, vlt1_nilp, vlt1_nils, vlt1_ptr, vlt1_sl, vlt1_func, vlt0_ptr, vlt0_sl, vlt0_int, vlt0_bool, vlt0_string, vlt0_nilp, vlt0_nils, vlt_int, vlt_bool, vlt_string, vlt_nilp, vlt_nils, vlt_ptr, vlt_sl, vlt_agg, vlt_func, List.toArray, Bool.and_true, Bool.true_and, Bool.and_self, Bool.and_eq_true, decide_eq_true_eq, and_true, true_and, new_c, upd_c, relock_c] <;> omega)) )); done) | (with_reducible refine Gd.upd ?_ (by (first | omega )) (by (simp only [objLt_row, objLt_dead, List.all_cons, List.all_nil, vlt1_int, vlt1_bool, vlt1_string, vlt1_nilp, vlt1_nils, vlt1_ptr, vlt1_sl, vlt1_func, vlt0_ptr, vlt0_sl, vlt0_int, vlt0_bool, vlt0_string, vlt0_nilp, vlt0_nils, vlt_int, vlt_bool, vlt_string, vlt_nilp, vlt_nils, vlt_ptr, vlt_sl, vlt_agg, vlt_func, List.toArray, Bool.and_true, Bool.true_and, Bool.and_self, Bool.and_eq_true, decide_eq_true_eq, and_true, true_and, new_c, upd_c, relock_c] <;> omega)); (repeat (first | refine Gd.upd ?_ (by (first | omega )) (by (simp only [objLt_row, objLt_dead, List.all_cons, List.all_nil, vlt1_int, vlt1_bool, vlt1_string, vlt1_nilp, vlt1_nils, vlt1_ptr, vlt1_sl, vlt1_func, vlt0_ptr, vlt0_sl, vlt0_int, vlt0_bool, vlt0_string, vlt0_nilp, vlt0_nils, vlt_int, vlt_bool, vlt_string, vlt_nilp, vlt_nils, vlt_ptr, vlt_sl, vlt_agg, vlt_func, List.toArray, Bool.and_true, Bool.true_and, Bool.and_self, Bool.and_eq_true, decide_eq_true_eq, and_true, true_and, new_c, upd_c, relock_c] <;> omega)) )); done) | (with_reducible refine Gd.relock2 ?_ ?_; rotate_left; simp only [new_c, upd_c, relock_c]; (repeat (first | refine Gd.upd ?_ (by (first | omega )) (by (simp only [objLt_row, objLt_dead, List.all_cons, List.all_nil, vlt1_int, vlt1_bool, vlt1_string, vlt1_nilp, vlt1_nils, vlt1_ptr, vlt1_sl, vlt1_func, vlt0_ptr, vlt0_sl, vlt0_int, vlt0_bool, vlt0_string, vlt0_nilp, vlt0_nils, vlt_int, vlt_bool, vlt_string, vlt_nilp, vlt_nils, vlt_ptr, vlt_sl, vlt_agg, vlt_func, List.toArray, Bool.and_true, Bool.true_and, Bool.and_self, Bool.and_eq_true, decide_eq_true_eq, and_true, true_and, new_c, upd_c, relock_c] <;> omega)) )); done) | (with_reducible refine nat_eq_id ?_; first | fail) | (with_reducible refine Rd.low (by with_reducible assumption) ?_; (repeat (first | refine Low.upd ?_ (by (first | omega )) _)); done) | ((first | fail); simp only [IsT, decide_eq_true_eq, Bool.and_eq_true, Bool.or_eq_true, Bool.not_eq_true', decide_eq_false_iff_not] at *; omega) | fail))) only [hbx', e2, ↓bindV_some, ↓bindS_some, ↓bindT_some, ↓bindO_some, ↓condB_true, ↓condB_false, bindV_some, bindS_some, bindT_some, bindO_some, wrap64, ↓condK_B, bin_add, bin_mul, bin_lss, cell_at, put_cons, cellOf_row, putOf_row, nth_zero, nth_succ, new_self, cast0, eq_self, new_lo, new_c, upd_self, upd_c, bindO_bindS, true_or, splice_nil, splice_cons, decide_true, decide_false, and_self, Nat.zero_add, List.length_cons, List.length_nil, List.set_cons_zero, List.set_cons_succ, List.all_cons, List.all_nil, storable_slice, Bool.and_self, Nat.reduceAdd, Nat.reduceSub, Nat.reduceMul, Nat.reduceLeDiff, Nat.reduceLT, Nat.reduceEqDiff, Int.reduceLE, Int.reduceLT, Int.reduceAdd, Int.reduceNeg, Int.reduceEq, Int.reduceSub, Int.reduceMul, Int.reduceToNat, Bool.true_or, ↓reduceIte, reduceCtorEq, ld_22, st_22, fa_26_5, bs_22_1_0, bs_64_1_0, bs_65_2_0_1]
    have hob : objLt S'.c (.row (fcs h (.slice a' (svs ++ [(⟨some ⟨S.c, 0, none⟩, 2, 2, [100 * ((j : Int) + 1), 100 * ((j : Int) + 1) + 50]⟩ : Sv)]).length c') (.slice none 0 0)) 0) = true := by
      simp only [objLt_row, List.all_cons, List.all_nil, vlt1_int, hv', vlt1_nils, Bool.and_self]
    have x3 : Ext [b2] S' (S'.upd b2 (.row (fcs h (.slice a' (svs ++ [(⟨some ⟨S.c, 0, none⟩, 2, 2, [100 * ((j : Int) + 1), 100 * ((j : Int) + 1) + 50]⟩ : Sv)]).length c') (.slice none 0 0)) 0)) := Ext.upd g'.ok q2' hob
    have fr2 : ∀ i, i ∈ blkOf (.slice a' (svs ++ [(⟨some ⟨S.c, 0, none⟩, 2, 2, [100 * ((j : Int) + 1), 100 * ((j : Int) + 1) + 50]⟩ : Sv)]).length c') → i ≠ b1 ∧ i ≠ b2 ∧ S.c + 1 + 1 ≤ i ∧ i < S'.c := fun i hi => by
      have := fr' i hi
      have hlt := hk1.lt g'.ok i hi
      simp only [new_c] at this
      exact ⟨by omega, by omega, by omega, hlt⟩
    have hnew : S'.heap S.c = (.row (IT.fl [100 * ((j : Int) + 1), 100 * ((j : Int) + 1) + 50]) 0) := by
      rw [x2.same S.c (by simp only [new_c]; omega) (fun hh => by have := hdb S.c hh; omega), new_lo _ (by simp only [new_c]; omega)]
      exact new_self _
    have g3 := x3.good g'
    have hcS : S.c + 1 + 1 ≤ S'.c := by have := x2.c; simp only [new_c] at this; exact this
    have hbx3 : (S'.upd b2 (.row (fcs h (.slice a' (svs ++ [(⟨some ⟨S.c, 0, none⟩, 2, 2, [100 * ((j : Int) + 1), 100 * ((j : Int) + 1) + 50]⟩ : Sv)]).length c') (.slice none 0 0)) 0)).heap b2 = _ := upd_self _ _
    have hb13 : (S'.upd b2 (.row (fcs h (.slice a' (svs ++ [(⟨some ⟨S.c, 0, none⟩, 2, 2, [100 * ((j : Int) + 1), 100 * ((j : Int) + 1) + 50]⟩ : Sv)]).length c') (.slice none 0 0)) 0)).heap b1 = _ := (upd_ne _ h12).trans hb1'
    have w3 : Low S0 (S'.upd b2 (.row (fcs h (.slice a' (svs ++ [(⟨some ⟨S.c, 0, none⟩, 2, 2, [100 * ((j : Int) + 1), 100 * ((j : Int) + 1) + 50]⟩ : Sv)]).length c') (.slice none 0 0)) 0)) := Low.ext (Low.ext w x (fun i hi => (nd i hi).2.2)) x3 (fun i hi => by rw [List.mem_singleton] at hi; omega)
    have sd3 := hk1.keep x3 (fun i hi => by rw [List.mem_singleton]; exact (fr2 i hi).2.1) g'.ok
    have h33 : ∀ s ∈ svs ++ [(⟨some ⟨S.c, 0, none⟩, 2, 2, [100 * ((j : Int) + 1), 100 * ((j : Int) + 1) + 50]⟩ : Sv)], Rd IT W (S'.upd b2 (.row (fcs h (.slice a' (svs ++ [(⟨some ⟨S.c, 0, none⟩, 2, 2, [100 * ((j : Int) + 1), 100 * ((j : Int) + 1) + 50]⟩ : Sv)]).length c') (.slice none 0 0)) 0)) (.slice s.a s.n s.c) s.l := by
      intro s hs
      rcases List.mem_append.1 hs with hs | hs
      · exact ((h3 s hs).ext x (fun i hi => (n3 s hs i hi).2.2)).ext x3 fun i hi => by rw [List.mem_singleton]; exact (n3 s hs i hi).2.1
      · rw [List.mem_singleton] at hs
        subst hs
        refine (rd_made (T := IT) g' (k := 0) _ rfl (by simp) (by simp) (by have := g.n; omega) hnew).ext x3 fun i hi => ?_
        simp only [blkOf, List.mem_singleton] at hi ⊢
        omega
    have sa3 := (ha0.keep x (fun i hi hd => nad i hd hi) g.ok).keep x3 (fun i hi => by rw [List.mem_singleton]; exact (na i hi).2.1) g'.ok
    have hbl : ∀ s ∈ svs ++ [(⟨some ⟨S.c, 0, none⟩, 2, 2, [100 * ((j : Int) + 1), 100 * ((j : Int) + 1) + 50]⟩ : Sv)], ∀ i, i ∈ blkOf (.slice s.a s.n s.c) → i ≠ b1 ∧ i ≠ b2 ∧ i ∉ blkOf (.slice a' (svs ++ [(⟨some ⟨S.c, 0, none⟩, 2, 2, [100 * ((j : Int) + 1), 100 * ((j : Int) + 1) + 50]⟩ : Sv)]).length c') ∧ i ∉ blkOf (.slice aa (ints j).length ca) ∧ i < S'.c := by
      intro s hs i hi
      rcases List.mem_append.1 hs with hs | hs
      · have hlt := (h3 s hs).lt i hi
        exact ⟨(n3 s hs i hi).1, (n3 s hs i hi).2.1, fun h' => by have := (fr2 i h').2.2; omega, n3a s hs i hi, by omega⟩
      · rw [List.mem_singleton] at hs
        subst hs
        simp only [blkOf, List.mem_singleton] at hi
        exact ⟨by omega, by omega, fun h' => by have := (fr2 i h').2.2; omega, fun h' => by have := hab i h'; omega, by omega⟩
    have hc3 : (S'.upd b2 (.row (fcs h (.slice a' (svs ++ [(⟨some ⟨S.c, 0, none⟩, 2, 2, [100 * ((j : Int) + 1), 100 * ((j : Int) + 1) + 50]⟩ : Sv)]).length c') (.slice none 0 0)) 0)).c = S'.c := rfl
    generalize S'.upd b2 (.row (fcs h (.slice a' (svs ++ [(⟨some ⟨S.c, 0, none⟩, 2, 2, [100 * ((j : Int) + 1), 100 * ((j : Int) + 1) + 50]⟩ : Sv)]).length c') (.slice none 0 0)) 0) = S3 at *
    rw [← hc3]
    have gC : Gd W (S3.new (.row (IT.fl [(j : Int)]) 0)) := g3.new rfl
    refine Wp.grow (T := IT) (new := [(j : Int)]) gC elc57 (sa3.new g3.ok rfl) (src_made Try.underlying64 (sz := 1) (n := 1) g3 (l := IT.fl [(j : Int)]) rfl (by decide) 0) rfl (by rw [ints_len]; simp only [List.length_cons, List.length_nil]; omega) fun va' S4 g4 sl4 x4 fr4 => ?_
    have x5 := Ext.pre g3.ok (rfl : objLt (S3.c + 1) (.row (IT.fl [(j : Int)]) 0) = true) x4
    rw [← ints_succ] at sl4
    have fr5 : ∀ i, i ∈ blkOf va' → S3.c + 1 ≤ i := fun i hi => by have := fr4 i hi; simp only [new_c] at this; exact this
    have hw := w.2.1
    refine ih S4 g4 (Low.ext w3 x5 (fun i hi => (na i hi).2.2)) (svs ++ [(⟨some ⟨S.c, 0, none⟩, 2, 2, [100 * ((j : Int) + 1), 100 * ((j : Int) + 1) + 50]⟩ : Sv)]) (by rw [List.map_append, hsv]; rfl) _ (sd3.keep x5 (fun i hi h' => by have := (fr2 i hi).2.2.1; have := hab i h'; omega) g3.ok) (fun s hs => (h33 s hs).ext x5 fun i hi => (hbl s hs i hi).2.2.2.1) (fun i hi => ⟨(fr2 i hi).1, (fr2 i hi).2.1, by have := (fr2 i hi).2.2.1; omega⟩) (fun s hs i hi => ⟨(hbl s hs i hi).1, (hbl s hs i hi).2.1, (hbl s hs i hi).2.2.1⟩) va' sl4 (fun i hi => by have := fr5 i hi; exact ⟨by omega, by omega, by omega⟩) (fun i hi h' => by have := (fr2 i hi).2.2.2; have := fr5 i h'; omega) (fun s hs i hi h' => by have := (hbl s hs i hi).2.2.2.2; have := fr5 i h'; omega) ((x5.same b2 (by omega) (fun h' => (na b2 h').2.1 rfl)).trans hbx3) ((x5.same b1 (by omega) (fun h' => (na b1 h').1 rfl)).trans hb13) _ _ _ _ _ _ _ _ _ _ _ _ _ _ _ _ _ _ _ _ _ _ _ _ _ _ _ _ _ _ _ _ _ _ _ _ _ _ _ _ _ _ _ _ _
theorem RFamily_ok {S : St} (g : Gd W S) (x y : Int) : Wp (cw W 14 #[i64 x, i64 y] S) (fun r => ∃ q, r.1 = cvl (famC (clampH x) (clampN y)) q ∧ Gd W r.2 ∧ Low S r.2 ∧ CfgAt W r.2 (famC (clampH x) (clampN y)) q) := by
  rw [eq14]
  have hh : 1 ≤ clampH x ∧ clampH x ≤ 6 := by unfold clampH; split; omega; split <;> omega
  have g1 : Gd W (S.new (.row [.int .i64 0, .int .i64 0, .int .i64 0, .int .i64 0, .int .i64 0, .slice none 0 0, .slice none 0 0, .slice none 0 0, .int .i64 0] 0)) := g.new rfl
  have lp := fun (h : Nat) (hh : 1 ≤ h ∧ h ≤ 6) (g2 : Gd W ((S.new (.row [.int .i64 0, .int .i64 0, .int .i64 0, .int .i64 0, .int .i64 0, .slice none 0 0, .slice none 0 0, .slice none 0 0, .int .i64 0] 0)).new (.row (fcs h (.slice none 0 0) (.slice none 0 0)) 0))) => fun y2 y3 y8 y9 y10 y11 y12 y13 y14 y15 y38 y39 y40 y41 y42 y43 y44 y45 y46 y47 y48 y49 y50 y51 y52 y53 y54 y55 y56 y57 y58 y59 y60 y61 y62 y63 y64 y65 y66 y67 y68 y69 y70 y71 y72 => rfam_loop1 S g.n g.ok.1 h y hh (b1 := S.c) (b2 := S.c + 1) (Nat.le_refl _) (Nat.le_succ _) (by omega) h 0 rfl ((S.new (.row [.int .i64 0, .int .i64 0, .int .i64 0, .int .i64 0, .int .i64 0, .slice none 0 0, .slice none 0 0, .slice none 0 0, .int .i64 0] 0)).new (.row (fcs h (.slice none 0 0) (.slice none 0 0)) 0)) g2 (Low.new (Low.new (Low.rfl' S) _) _) [] rfl (.slice none 0 0) sl_nil (fun s hs => by cases hs) (fun i hi => by cases hi) (fun s hs => by cases hs) (.slice none 0 0) sl_nil (fun i hi => by cases hi) (fun i hi => by cases hi) (fun s hs => by cases hs) (new_self _) (by rw [new_lo _ (by simp only [new_c]; omega)]; exact new_self _) y2 y3 y8 y9 y10 y11 y12 y13 y14 y15 y38 y39 y40 y41 y42 y43 y44 y45 y46 y47 y48 y49 y50 y51 y52 y53 y54 y55 y56 y57 y58 y59 y60 y61 y62 y63 y64 y65 y66 y67 y68 y69 y70 y71 y72
  rw [cast0] at lp
  have hN := g.n; have hL : S.lock ≤ S.c := g.ok.1
  by_cases c1 : x < 1
  · have eh : clampH x = 1 := by unfold clampH; rw [if_pos c1]
    rw [eh] at hh ⊢
    have l1 := lp 1 hh (g1.new rfl)
    rw [cast1] at l1
    simp -implicitDefEqProofs (maxSteps := 1000000) (disch := (refine id ?_; first | ((first | fail); (first | (simp +arith only [new_c, new_lock, upd_c, upd_lock, relock_c, relock_lock]; done) | (refine Nat.le_trans hL ?_; simp +arith only [new_c, new_lock, upd_c, upd_lock, relock_c, relock_lock]; done) | fail)) | ((fail_if_success (with_reducible apply isT_of)); (fail_if_success (first | fail)); first | (simp +arith only [new_c, new_lock, upd_c, upd_lock, relock_c, relock_lock]; done) | (refine Nat.le_trans hL ?_; simp +arith only [new_c, new_lock, upd_c, upd_lock, relock_c, relock_lock]; done) | (with_reducible refine Low.new ?_ _; (repeat (first | refine Low.upd ?_ (by (first | fail)) _)); done) | (with_reducible refine Low.upd ?_ (by (first | fail)) _; (repeat (first | refine Low.upd ?_ (by (first | fail)) _)); done) | (with_reducible refine Gd.new ?_ (by (simp only [objLt_row, objLt_dead, List.all_cons, List.all_nil, vlt1_int, vlt1_bool, vlt1_string, vlt1_nilp, vlt1_nils, vlt1_ptr, vlt1_sl, vlt1_func, vlt0_ptr, vlt0_sl, vlt0_int, vlt0_bool, vlt0_string, vlt0_nilp, vlt0_nils, vlt_int, vlt_bool, vlt_string, vlt_nilp, vlt_nils, vlt_ptr, vlt_sl, vlt_agg, vlt_func, List.toArray, Bool.and_true, Bool.true_and, Bool.and_self, Bool.and_eq_true, decide_eq_true_eq, and_true, true_and, new_c, upd_c, relock_c] <;> omega)); (repeat (first | refine Gd.upd ?_ (by (first | fail)) (by (simp only [objLt_row, objLt_dead, List.all_cons, List.all_nil, vlt1_int, vlt1_bool, vlt1_string, vlt1_nilp, vlt1_nils, vlt1_ptr, vlt1_sl, vlt1_func, vlt0_ptr, vlt0_sl, vlt0_int, vlt0_bool, vlt0_string, vlt0_nilp, vlt0_nils, vlt_int, vlt_bool, vlt_string, vlt_nilp, vlt_nils, vlt_ptr, vlt_sl, vlt_agg, vlt_func, List.toArray, Bool.and_true, Bool.true_and, Bool.and_self, Bool.and_eq_true, decide_eq_true_eq, and_true, true_and, new_c, upd_c, relock_c] <;> omega)) )); done) | (with_reducible refine Gd.upd ?_ (by (first | fail)) (by (simp only [objLt_row, objLt_dead, List.all_cons, List.all_nil, vlt1_int, vlt1_bool, vlt1_string, vlt1_nilp, vlt1_nils, vlt1_ptr, vlt1_sl, vlt1_func, vlt0_ptr, vlt0_sl, vlt0_int, vlt0_bool, vlt0_string, vlt0_nilp, vlt0_nils, vlt_int, vlt_bool, vlt_string, vlt_nilp, vlt_nils, vlt_ptr, vlt_sl, vlt_agg, vlt_func, List.toArray, Bool.and_true, Bool.true_and, Bool.and_self, Bool.and_eq_true, decide_eq_true_eq, and_true, true_and, new_c, upd_c, relock_c] <;> omega)); (repeat (first | refine Gd.upd ?_ (by (first | fail)) (by (simp only [objLt_row, objLt_dead, List.all_cons, List.all_nil, vlt1_int, vlt1_bool, vlt1_string, vlt1_nilp, vlt1_nils, vlt1_ptr, vlt1_sl, vlt1_func, vlt0_ptr, vlt0_sl, vlt0_int, vlt0_bool, vlt0_string, vlt0_nilp, vlt0_nils, vlt_int, vlt_bool, vlt_string, vlt_nilp, vlt_nils, vlt_ptr, vlt_sl, vlt_agg, vlt_func, List.toArray, Bool.and_true, Bool.true_and, Bool.and_self, Bool.and_eq_true, decide_eq_true_eq, and_true, true_and, new_c, upd_c, relock_c] <;> omega)) )); done) | (with_reducible refine Gd.relock2 ?_ ?_; rotate_left; simp only [new_c, upd_c, relock_c]; (repeat (first | refine Gd.upd ?_ (by (first | fail)) (by (simp only [objLt_row, objLt_dead, List.all_cons, List.all_nil, vlt1_int, vlt1_bool, vlt1_string, vlt1_nilp, vlt1_nils, vlt1_ptr, vlt1_sl, vlt1_func, vlt0_ptr, vlt0_sl, vlt0_int, vlt0_bool, vlt0_string, vlt0_nilp, vlt0_nils, vlt_int, vlt_bool, vlt_string, vlt_nilp, vlt_nils, vlt_ptr, vlt_sl, vlt_agg, vlt_func, List.toArray, Bool.and_true, Bool.true_and, Bool.and_self, Bool.and_eq_true, decide_eq_true_eq, and_true, true_and, new_c, upd_c, relock_c] <;> omega)) )); done) | (with_reducible refine nat_eq_id ?_; first | fail) | (with_reducible refine Rd.low (by with_reducible assumption) ?_; (repeat (first | refine Low.upd ?_ (by (first | fail)) _)); done) | ((first | fail); simp only [IsT, decide_eq_true_eq, Bool.and_eq_true, Bool.or_eq_true, Bool.not_eq_true', decide_eq_false_iff_not] at *; omega) | fail))) only [c1, ↓bindV_some, ↓bindS_some, ↓bindT_some, ↓condB_true, ↓condB_false, bindV_some, bindS_some, bindT_some, ↓condK_B, bin_lss, bin_gtr, put_cons, putOf_row, new_self, cast0, cast1, eq_self, new_upd, new_at, new_lo, new_c, splice_nil, splice_cons, decide_true, decide_false, and_self, Nat.zero_add, List.length_cons, List.length_nil, List.set_cons_zero, List.set_cons_succ, List.all_cons, List.all_nil, storable_int, storable_slice, Bool.and_self, Nat.reduceAdd, Nat.reduceSub, Nat.reduceMul, Nat.reduceLeDiff, Nat.reduceLT, Nat.reduceEqDiff, Int.reduceLE, Int.reduceLT, Int.reduceAdd, Int.reduceNeg, Int.reduceEq, Int.reduceSub, Int.reduceMul, Int.reduceToNat, ↓reduceIte, Nat.le_refl, decide_eq_true_eq, reduceCtorEq, st_26, al_26, bu_26_0_1_2_3_4_8]
    exact l1 _ _ _ _ _ _ _ _ _ _ _ _ _ _ _ _ _ _ _ _ _ _ _ _ _ _ _ _ _ _ _ _ _ _ _ _ _ _ _ _ _ _ _ _ _
  · by_cases c2 : 6 < x
    · have eh : clampH x = 6 := by unfold clampH; rw [if_neg c1, if_pos c2]
      rw [eh] at hh ⊢
      have l1 := lp 6 hh (g1.new rfl)
      rw [show ((6 : Nat) : Int) = 6 from rfl] at l1
      simp -implicitDefEqProofs (maxSteps := 1000000) (disch := (refine id ?_; first | ((first | fail); (first | (simp +arith only [new_c, new_lock, upd_c, upd_lock, relock_c, relock_lock]; done) | (refine Nat.le_trans hL ?_; simp +arith only [new_c, new_lock, upd_c, upd_lock, relock_c, relock_lock]; done) | fail)) | ((fail_if_success (with_reducible apply isT_of)); (fail_if_success (first | fail)); first | (simp +arith only [new_c, new_lock, upd_c, upd_lock, relock_c, relock_lock]; done) | (refine Nat.le_trans hL ?_; simp +arith only [new_c, new_lock, upd_c, upd_lock, relock_c, relock_lock]; done) | (with_reducible refine Low.new ?_ _; (repeat (first | refine Low.upd ?_ (by (first | fail)) _)); done) | (with_reducible refine Low.upd ?_ (by (first | fail)) _; (repeat (first | refine Low.upd ?_ (by (first | fail)) _)); done) | (with_reducible refine Gd.new ?_ (by (simp only [objLt_row, objLt_dead, List.all_cons, List.all_nil, vlt1_int, vlt1_bool, vlt1_string, vlt1_nilp, vlt1_nils, vlt1_ptr, vlt1_sl, vlt1_func, vlt0_ptr, vlt0_sl, vlt0_int, vlt0_bool, vlt0_string, vlt0_nilp, vlt0_nils, vlt_int, vlt_bool, vlt_string, vlt_nilp, vlt_nils, vlt_ptr, vlt_sl, vlt_agg, vlt_func, List.toArray, Bool.and_true, Bool.true_and, Bool.and_self, Bool.and_eq_true, decide_eq_true_eq, and_true, true_and, new_c, upd_c, relock_c] <;> omega)); (repeat (first | refine Gd.upd ?_ (by (first | fail)) (by (simp only [objLt_row, objLt_dead, List.all_cons, List.all_nil, vlt1_int, vlt1_bool, vlt1_string, vlt1_nilp, vlt1_nils, vlt1_ptr, vlt1_sl, vlt1_func, vlt0_ptr, vlt0_sl, vlt0_int, vlt0_bool, vlt0_string, vlt0_nilp, vlt0_nils, vlt_int, vlt_bool, vlt_string, vlt_nilp, vlt_nils, vlt_ptr, vlt_sl, vlt_agg, vlt_func, List.toArray, Bool.and_true, Bool.true_and, Bool.and_self, Bool.and_eq_true, decide_eq_true_eq, and_true, true_and, new_c, upd_c, relock_c] <;> omega)) )); done) | (with_reducible refine Gd.upd ?_ (by (first | fail)) (by (simp only [objLt_row, objLt_dead, List.all_cons, List.all_nil, vlt1_int, vlt1_bool, vlt1_string, vlt1_nilp, vlt1_nils, vlt1_ptr, vlt1_sl, vlt1_func, vlt0_ptr, vlt0_sl, vlt0_int, vlt0_bool, vlt0_string, vlt0_nilp, vlt0_nils, vlt_int, vlt_bool, vlt_string, vlt_nilp, vlt_nils, vlt_ptr, vlt_sl, vlt_agg, vlt_func, List.toArray, Bool.and_true, Bool.true_and, Bool.and_self, Bool.and_eq_true, decide_eq_true_eq, and_true, true_and, new_c, upd_c, relock_c] <;> omega)); (repeat (first | refine Gd.upd ?_ (by (first | fail)) (by (simp only [objLt_row, objLt_dead, List.all_cons, List.all_nil, vlt1_int, vlt1_bool, vlt1_string, vlt1_nilp, vlt1_nils, vlt1_ptr, vlt1_sl, vlt1_func, vlt0_ptr, vlt0_sl, vlt0_int, vlt0_bool, vlt0_string, vlt0_nilp, vlt0_nils, vlt_int, vlt_bool, vlt_string, vlt_nilp, vlt_nils, vlt_ptr, vlt_sl, vlt_agg, vlt_func, List.toArray, Bool.and_true, Bool.true_and, Bool.and_self, Bool.and_eq_true, decide_eq_true_eq, and_true, true_and, new_c, upd_c, relock_c] <;> omega)) )); done) | (with_reducible refine Gd.relock2 ?_ ?_; rotate_left; simp only [new_c, upd_c, relock_c]; (repeat (first | refine Gd.upd ?_ (by (first | fail)) (by (simp only [objLt_row, objLt_dead, List.all_cons, List.all_nil, vlt1_int, vlt1_bool, vlt1_string, vlt1_nilp, vlt1_nils, vlt1_ptr, vlt1_sl, vlt1_func, vlt0_ptr, vlt0_sl, vlt0_int, vlt0_bool, vlt0_string, vlt0_nilp, vlt0_nils, vlt_int, vlt_bool, vlt_string, vlt_nilp, vlt_nils, vlt_ptr, vlt_sl, vlt_agg, vlt_func, List.toArray, Bool.and_true, Bool.true_and, Bool.and_self, Bool.and_eq_true, decide_eq_true_eq, and_true, true_and, new_c, upd_c, relock_c] <;> omega)) )); done) | (with_reducible refine nat_eq_id ?_; first | fail) | (with_reducible refine Rd.low (by with_reducible assumption) ?_; (repeat (first | refine Low.upd ?_ (by (first | fail)) _)); done) | ((first | fail); simp only [IsT, decide_eq_true_eq, Bool.and_eq_true, Bool.or_eq_true, Bool.not_eq_true', decide_eq_false_iff_not] at *; omega) | fail))) only [c1, c2, ↓bindV_some, ↓bindS_some, ↓bindT_some, ↓condB_true, ↓condB_false, bindV_some, bindS_some, bindT_some, ↓condK_B, bin_lss, bin_gtr, put_cons, putOf_row, new_self, cast0, cast1, eq_self, new_upd, new_at, new_lo, new_c, splice_nil, splice_cons, decide_true, decide_false, and_self, Nat.zero_add, List.length_cons, List.length_nil, List.set_cons_zero, List.set_cons_succ, List.all_cons, List.all_nil, storable_int, storable_slice, Bool.and_self, Nat.reduceAdd, Nat.reduceSub, Nat.reduceMul, Nat.reduceLeDiff, Nat.reduceLT, Nat.reduceEqDiff, Int.reduceLE, Int.reduceLT, Int.reduceAdd, Int.reduceNeg, Int.reduceEq, Int.reduceSub, Int.reduceMul, Int.reduceToNat, ↓reduceIte, Nat.le_refl, decide_eq_true_eq, reduceCtorEq, st_26, al_26, bu_26_0_1_2_3_4_8]
      exact l1 _ _ _ _ _ _ _ _ _ _ _ _ _ _ _ _ _ _ _ _ _ _ _ _ _ _ _ _ _ _ _ _ _ _ _ _ _ _ _ _ _ _ _ _ _
    · have eh : ((clampH x : Nat) : Int) = x := by unfold clampH; rw [if_neg c1, if_neg c2]; omega
      generalize clampH x = h at *
      have l1 := lp h hh (g1.new rfl)
      subst eh
      simp -implicitDefEqProofs (maxSteps := 1000000) (disch := (refine id ?_; first | ((first | fail); (first | (simp +arith only [new_c, new_lock, upd_c, upd_lock, relock_c, relock_lock]; done) | (refine Nat.le_trans hL ?_; simp +arith only [new_c, new_lock, upd_c, upd_lock, relock_c, relock_lock]; done) | fail)) | ((fail_if_success (with_reducible apply isT_of)); (fail_if_success (first | fail)); first | (simp +arith only [new_c, new_lock, upd_c, upd_lock, relock_c, relock_lock]; done) | (refine Nat.le_trans hL ?_; simp +arith only [new_c, new_lock, upd_c, upd_lock, relock_c, relock_lock]; done) | (with_reducible refine Low.new ?_ _; (repeat (first | refine Low.upd ?_ (by (first | fail)) _)); done) | (with_reducible refine Low.upd ?_ (by (first | fail)) _; (repeat (first | refine Low.upd ?_ (by (first | fail)) _)); done) | (with_reducible refine Gd.new ?_ (by (simp only [objLt_row, objLt_dead, List.all_cons, List.all_nil, vlt1_int, vlt1_bool, vlt1_string, vlt1_nilp, vlt1_nils, vlt1_ptr, vlt1_sl, vlt1_func, vlt0_ptr, vlt0_sl, vlt0_int, vlt0_bool, vlt0_string, vlt0_nilp, vlt0_nils, vlt_int, vlt_bool, vlt_string, vlt_nilp, vlt_nils, vlt_ptr, vlt_sl, vlt_agg, vlt_func, List.toArray, Bool.and_true, Bool.true_and, Bool.and_self, Bool.and_eq_true, decide_eq_true_eq, and_true, true_and, new_c, upd_c, relock_c] <;> omega)); (repeat (first | refine Gd.upd ?_ (by (first | fail)) (by (simp only [objLt_row, objLt_dead, List.all_cons, List.all_nil, vlt1_int, vlt1_bool, vlt1_string, vlt1_nilp, vlt1_nils, vlt1_ptr, vlt1_sl, vlt1_func, vlt0_ptr, vlt0_sl, vlt0_int, vlt0_bool, vlt0_string, vlt0_nilp, vlt0_nils, vlt_int, vlt_bool, vlt_string, vlt_nilp, vlt_nils, vlt_ptr, vlt_sl, vlt_agg, vlt_func, List.toArray, Bool.and_true, Bool.true_and, Bool.and_self, Bool.and_eq_true, decide_eq_true_eq, and_true, true_and, new_c, upd_c, relock_c] <;> omega)) )); done) | (with_reducible refine Gd.upd ?_ (by (first | fail)) (by (simp only [objLt_row, objLt_dead, List.all_cons, List.all_nil, vlt1_int, vlt1_bool, vlt1_string, vlt1_nilp, vlt1_nils, vlt1_ptr, vlt1_sl, vlt1_func, vlt0_ptr, vlt0_sl, vlt0_int, vlt0_bool, vlt0_string, vlt0_nilp, vlt0_nils, vlt_int, vlt_bool, vlt_string, vlt_nilp, vlt_nils, vlt_ptr, vlt_sl, vlt_agg, vlt_func, List.toArray, Bool.and_true, Bool.true_and, Bool.and_self, Bool.and_eq_true, decide_eq_true_eq, and_true, true_and, new_c, upd_c, relock_c] <;> omega)); (repeat (first | refine Gd.upd ?_ (by (first | fail)) (by (simp only [objLt_row, objLt_dead, List.all_cons, List.all_nil, vlt1_int, vlt1_bool, vlt1_string, vlt1_nilp, vlt1_nils, vlt1_ptr, vlt1_sl, vlt1_func, vlt0_ptr, vlt0_sl, vlt0_int, vlt0_bool, vlt0_string, vlt0_nilp, vlt0_nils, vlt_int, vlt_bool, vlt_string, vlt_nilp, vlt_nils, vlt_ptr, vlt_sl, vlt_agg, vlt_func, List.toArray, Bool.and_true, Bool.true_and, Bool.and_self, Bool.and_eq_true, decide_eq_true_eq, and_true, true_and, new_c, upd_c, relock_c] <;> omega)) )); done) | (with_reducible refine Gd.relock2 ?_ ?_; rotate_left; simp only [new_c, upd_c, relock_c]; (repeat (first | refine Gd.upd ?_ (by (first | fail)) (by (simp only [objLt_row, objLt_dead, List.all_cons, List.all_nil, vlt1_int, vlt1_bool, vlt1_string, vlt1_nilp, vlt1_nils, vlt1_ptr, vlt1_sl, vlt1_func, vlt0_ptr, vlt0_sl, vlt0_int, vlt0_bool, vlt0_string, vlt0_nilp, vlt0_nils, vlt_int, vlt_bool, vlt_string, vlt_nilp, vlt_nils, vlt_ptr, vlt_sl, vlt_agg, vlt_func, List.toArray, Bool.and_true, Bool.true_and, Bool.and_self, Bool.and_eq_true, decide_eq_true_eq, and_true, true_and, new_c, upd_c, relock_c] <;> omega)) )); done) | (with_reducible refine nat_eq_id ?_; first | fail) | (with_reducible refine Rd.low (by with_reducible assumption) ?_; (repeat (first | refine Low.upd ?_ (by (first | fail)) _)); done) | ((first | fail); simp only [IsT, decide_eq_true_eq, Bool.and_eq_true, Bool.or_eq_true, Bool.not_eq_true', decide_eq_false_iff_not] at *; omega) | fail))) only [c1, c2, ↓bindV_some, ↓bindS_some, ↓bindT_some, ↓condB_true, ↓condB_false, bindV_some, bindS_some, bindT_some, ↓condK_B, bin_lss, bin_gtr, put_cons, putOf_row, new_self, cast0, cast1, eq_self, new_upd, new_at, new_lo, new_c, splice_nil, splice_cons, decide_true, decide_false, and_self, Nat.zero_add, List.length_cons, List.length_nil, List.set_cons_zero, List.set_cons_succ, List.all_cons, List.all_nil, storable_int, storable_slice, Bool.and_self, Nat.reduceAdd, Nat.reduceSub, Nat.reduceMul, Nat.reduceLeDiff, Nat.reduceLT, Nat.reduceEqDiff, Int.reduceLE, Int.reduceLT, Int.reduceAdd, Int.reduceNeg, Int.reduceEq, Int.reduceSub, Int.reduceMul, Int.reduceToNat, ↓reduceIte, Nat.le_refl, decide_eq_true_eq, reduceCtorEq, st_26, al_26, bu_26_0_1_2_3_4_8]
      exact l1 _ _ _ _ _ _ _ _ _ _ _ _ _ _ _ _ _ _ _ _ _ _ _ _ _ _ _ _ _ _ _ _ _ _ _ _ _ _ _ _ _ _ _ _ _
end
end Go.Proofs.Yteofdikfdknpbaa.F
end
section
namespace Go.Proofs.Yteofdikfdknpbaa.F
open Go Go.Proofs.Yteofdikfdknpbaa.E
set_option linter.unusedVariables false
set_option linter.unusedSimpArgs false
structure Ct where
  k : Int
  f : Int
  cy : Int
  cr : Nat
  cl : Int
abbrev tcs (d : Ct) : List Value := [.int .i64 d.k, .int .i64 d.f, .int .i64 d.cy, .int .u32 (d.cr : Int), .int .i64 d.cl]
abbrev tv (d : Ct) : Value := .agg #[.int .i64 d.k, .int .i64 d.f, .int .i64 d.cy, .int .u32 (d.cr : Int), .int .i64 d.cl]
def rightC (d : Ct) : Bool := decide ((d.k = 1 ∨ d.k = 2) ∧ 0 ≤ d.f ∧ d.f ≤ 7 ∧ 0 ≤ d.cy ∧ d.cy ≤ 1125899906842624 ∧ d.cr < 64 ∧ 0 ≤ d.cl ∧ d.cl ≤ 1048576)
def headC (d : Ct) : List Int := [137, 29, d.k, d.f]
def controlB (d : Ct) : List Int := headC d ++ putI d.cy 8 ++ putI (d.cr : Int) 4 ++ putI d.cl 8 ++ putI 0 6
def sealI (b : List Int) : List Int := b ++ putI (IntKind.u64.wrap (crc b)) 4
def pc (n : Nat) : Nat := n % 2 + n / 2 % 2 + n / 4 % 2 + n / 8 % 2 + n / 16 % 2 + n / 32 % 2
theorem pc_le (n : Nat) : pc n ≤ 6 := by unfold pc; omega
abbrev onesS : ByteArray := { data := #[0, 1, 1, 2, 1, 2, 2, 3, 1, 2, 2, 3, 2, 3, 3, 4, 1, 2, 2, 3, 2, 3, 3, 4, 2, 3, 3, 4, 3, 4, 4, 5, 1, 2, 2, 3, 2, 3, 3, 4, 2, 3, 3, 4, 3, 4, 4, 5, 2, 3, 3, 4, 3, 4, 4, 5, 3, 4, 4, 5, 4, 5, 5, 6, 1, 2, 2, 3, 2, 3, 3, 4, 2, 3, 3, 4, 3, 4, 4, 5, 2, 3, 3, 4, 3, 4, 4, 5, 3, 4, 4, 5, 4, 5, 5, 6, 2, 3, 3, 4, 3, 4, 4, 5, 3, 4, 4, 5, 4, 5, 5, 6, 3, 4, 4, 5, 4, 5, 5, 6, 4, 5, 5, 6, 5, 6, 6, 7, 1, 2, 2, 3, 2, 3, 3, 4, 2, 3, 3, 4, 3, 4, 4, 5, 2, 3, 3, 4, 3, 4, 4, 5, 3, 4, 4, 5, 4, 5, 5, 6, 2, 3, 3, 4, 3, 4, 4, 5, 3, 4, 4, 5, 4, 5, 5, 6, 3, 4, 4, 5, 4, 5, 5, 6, 4, 5, 5, 6, 5, 6, 6, 7, 2, 3, 3, 4, 3, 4, 4, 5, 3, 4, 4, 5, 4, 5, 5, 6, 3, 4, 4, 5, 4, 5, 5, 6, 4, 5, 5, 6, 5, 6, 6, 7, 3, 4, 4, 5, 4, 5, 5, 6, 4, 5, 5, 6, 5, 6, 6, 7, 4, 5, 5, 6, 5, 6, 6, 7, 5, 6, 6, 7, 6, 7, 7, 8] }
theorem ones_row : (List.range 64).map (fun n : Nat => still p (Instr.index 9 (.string onesS) (.int .u32 (n : Int)))) = (List.range 64).map (fun n : Nat => some (Value.int .u8 (pc n : Int))) := by kernel_rfl
theorem ones_at (n : Nat) (h : n < 64) : still p (Instr.index 9 (.string onesS) (.int .u32 (n : Int))) = some (Value.int .u8 (pc n : Int)) := by
  have e := congrArg (fun l => l[n]?) ones_row
  simpa [h] using e
section
variable {W : World} {S : St}
theorem within_eq (g : Gd W S) (n lo hi : Int) : cw W 51 #[i64 n, i64 lo, i64 hi] S = some (.bool (inB n lo hi), S) := by
  rw [eq51]
  have hN := g.n; have hL : S.lock ≤ S.c := g.ok.1
  simp -implicitDefEqProofs (maxSteps := 1000000) (disch := (refine id ?_; first | with_reducible assumption | ((fail_if_success (with_reducible apply isT_of)); (fail_if_success (first | fail)); first | (with_reducible apply Gd.cl; with_reducible assumption) | with_reducible exact Low.rfl' _ | (simp only [flatR_int, flatR_bool, flatR_string, flatR_tuple, flatR_agg, flat_int, flat_bool, flat_string, flat_agg, flat0_int, flat0_bool, flat0_string, List.all_cons, List.all_nil, Bool.and_self, Bool.and_true, Bool.true_and]; done) | (simp only [objLt_row, objLt_dead, List.all_cons, List.all_nil, vlt1_int, vlt1_bool, vlt1_string, vlt1_nilp, vlt1_nils, vlt1_ptr, vlt1_sl, vlt1_func, vlt0_ptr, vlt0_sl, vlt0_int, vlt0_bool, vlt0_string, vlt0_nilp, vlt0_nils, vlt_int, vlt_bool, vlt_string, vlt_nilp, vlt_nils, vlt_ptr, vlt_sl, vlt_agg, vlt_func, List.toArray, Bool.and_true, Bool.true_and, Bool.and_self, Bool.and_eq_true, decide_eq_true_eq, and_true, true_and, new_c, upd_c, relock_c]; (try omega); done) | fail))) only [gcR_some, ↓bindV_some, bindV_some, ↓gV_t, wV_pos, wO_val, pick_and, bin_leq, bin_geq, eq_self, and_self, Bool.and_self, Nat.reduceAdd, Nat.reduceSub, Nat.reduceMul, Nat.reduceLeDiff, Nat.reduceLT, Nat.reduceEqDiff, Int.reduceLE, Int.reduceLT, Int.reduceAdd, Int.reduceNeg, Int.reduceEq, Int.reduceSub, Int.reduceMul, Int.reduceToNat, ↓reduceIte, decide_eq_true_eq, Bool.and_eq_true, reduceCtorEq]
  refine congrArg (fun b => some (Value.bool b, S)) ?_
  unfold inB
  rw [Bool.eq_iff_iff]
  simp only [Bool.and_eq_true, decide_eq_true_eq]
theorem ones_eq (g : Gd W S) (n : Nat) (hn : n < 64) : cw W 53 #[u32 n] S = some (i64 (pc n), S) := by
  have p6 := pc_le n
  have ix0 : still p (Instr.index 9 (.string { data := #[0, 1, 1, 2, 1, 2, 2, 3, 1, 2, 2, 3, 2, 3, 3, 4, 1, 2, 2, 3, 2, 3, 3, 4, 2, 3, 3, 4, 3, 4, 4, 5, 1, 2, 2, 3, 2, 3, 3, 4, 2, 3, 3, 4, 3, 4, 4, 5, 2, 3, 3, 4, 3, 4, 4, 5, 3, 4, 4, 5, 4, 5, 5, 6, 1, 2, 2, 3, 2, 3, 3, 4, 2, 3, 3, 4, 3, 4, 4, 5, 2, 3, 3, 4, 3, 4, 4, 5, 3, 4, 4, 5, 4, 5, 5, 6, 2, 3, 3, 4, 3, 4, 4, 5, 3, 4, 4, 5, 4, 5, 5, 6, 3, 4, 4, 5, 4, 5, 5, 6, 4, 5, 5, 6, 5, 6, 6, 7, 1, 2, 2, 3, 2, 3, 3, 4, 2, 3, 3, 4, 3, 4, 4, 5, 2, 3, 3, 4, 3, 4, 4, 5, 3, 4, 4, 5, 4, 5, 5, 6, 2, 3, 3, 4, 3, 4, 4, 5, 3, 4, 4, 5, 4, 5, 5, 6, 3, 4, 4, 5, 4, 5, 5, 6, 4, 5, 5, 6, 5, 6, 6, 7, 2, 3, 3, 4, 3, 4, 4, 5, 3, 4, 4, 5, 4, 5, 5, 6, 3, 4, 4, 5, 4, 5, 5, 6, 4, 5, 5, 6, 5, 6, 6, 7, 3, 4, 4, 5, 4, 5, 5, 6, 4, 5, 5, 6, 5, 6, 6, 7, 4, 5, 5, 6, 5, 6, 6, 7, 5, 6, 6, 7, 6, 7, 7, 8] }) (.int .u32 0)) = some (Value.int .u8 0) := by kernel_rfl
  have ixn : still p (Instr.index 9 (.string { data := #[0, 1, 1, 2, 1, 2, 2, 3, 1, 2, 2, 3, 2, 3, 3, 4, 1, 2, 2, 3, 2, 3, 3, 4, 2, 3, 3, 4, 3, 4, 4, 5, 1, 2, 2, 3, 2, 3, 3, 4, 2, 3, 3, 4, 3, 4, 4, 5, 2, 3, 3, 4, 3, 4, 4, 5, 3, 4, 4, 5, 4, 5, 5, 6, 1, 2, 2, 3, 2, 3, 3, 4, 2, 3, 3, 4, 3, 4, 4, 5, 2, 3, 3, 4, 3, 4, 4, 5, 3, 4, 4, 5, 4, 5, 5, 6, 2, 3, 3, 4, 3, 4, 4, 5, 3, 4, 4, 5, 4, 5, 5, 6, 3, 4, 4, 5, 4, 5, 5, 6, 4, 5, 5, 6, 5, 6, 6, 7, 1, 2, 2, 3, 2, 3, 3, 4, 2, 3, 3, 4, 3, 4, 4, 5, 2, 3, 3, 4, 3, 4, 4, 5, 3, 4, 4, 5, 4, 5, 5, 6, 2, 3, 3, 4, 3, 4, 4, 5, 3, 4, 4, 5, 4, 5, 5, 6, 3, 4, 4, 5, 4, 5, 5, 6, 4, 5, 5, 6, 5, 6, 6, 7, 2, 3, 3, 4, 3, 4, 4, 5, 3, 4, 4, 5, 4, 5, 5, 6, 3, 4, 4, 5, 4, 5, 5, 6, 4, 5, 5, 6, 5, 6, 6, 7, 3, 4, 4, 5, 4, 5, 5, 6, 4, 5, 5, 6, 5, 6, 6, 7, 4, 5, 5, 6, 5, 6, 6, 7, 5, 6, 6, 7, 6, 7, 7, 8] }) (.int .u32 (n : Int))) = some (Value.int .u8 (pc n : Int)) := ones_at n hn
  have e1 : aBin p .shr 27 (.int .u32 (n : Int)) (.int .u64 24) = some (.int .u32 0) := by rw [shr_nat 27 .u64 n (by omega) 24 (by omega) (by omega)]; rw [show n / 2 ^ (24 : Int).toNat = 0 from Nat.div_eq_of_lt (Nat.lt_trans hn (by decide))]; rfl
  have e2 : aBin p .shr 27 (.int .u32 (n : Int)) (.int .u64 16) = some (.int .u32 0) := by rw [shr_nat 27 .u64 n (by omega) 16 (by omega) (by omega)]; rw [show n / 2 ^ (16 : Int).toNat = 0 from Nat.div_eq_of_lt (Nat.lt_trans hn (by decide))]; rfl
  have e3 : aBin p .shr 27 (.int .u32 (n : Int)) (.int .u64 8) = some (.int .u32 0) := by rw [shr_nat 27 .u64 n (by omega) 8 (by omega) (by omega)]; rw [show n / 2 ^ (8 : Int).toNat = 0 from Nat.div_eq_of_lt (Nat.lt_trans hn (by decide))]; rfl
  have e4 : Go.bits .and .u32 0 255 = 0 := by decide
  have e5 : Go.bits .and .u32 (n : Int) 255 = (n : Int) := by
    have := and_nat n 255 (by omega) (by omega)
    rw [show ((255 : Nat) : Int) = 255 from rfl] at this
    rw [this, show n &&& 255 = n % 256 from Nat.and_two_pow_sub_one_eq_mod n 8, Nat.mod_eq_of_lt (by omega)]
  rw [eq53]
  generalize ({ data := #[0, 1, 1, 2, 1, 2, 2, 3, 1, 2, 2, 3, 2, 3, 3, 4, 1, 2, 2, 3, 2, 3, 3, 4, 2, 3, 3, 4, 3, 4, 4, 5, 1, 2, 2, 3, 2, 3, 3, 4, 2, 3, 3, 4, 3, 4, 4, 5, 2, 3, 3, 4, 3, 4, 4, 5, 3, 4, 4, 5, 4, 5, 5, 6, 1, 2, 2, 3, 2, 3, 3, 4, 2, 3, 3, 4, 3, 4, 4, 5, 2, 3, 3, 4, 3, 4, 4, 5, 3, 4, 4, 5, 4, 5, 5, 6, 2, 3, 3, 4, 3, 4, 4, 5, 3, 4, 4, 5, 4, 5, 5, 6, 3, 4, 4, 5, 4, 5, 5, 6, 4, 5, 5, 6, 5, 6, 6, 7, 1, 2, 2, 3, 2, 3, 3, 4, 2, 3, 3, 4, 3, 4, 4, 5, 2, 3, 3, 4, 3, 4, 4, 5, 3, 4, 4, 5, 4, 5, 5, 6, 2, 3, 3, 4, 3, 4, 4, 5, 3, 4, 4, 5, 4, 5, 5, 6, 3, 4, 4, 5, 4, 5, 5, 6, 4, 5, 5, 6, 5, 6, 6, 7, 2, 3, 3, 4, 3, 4, 4, 5, 3, 4, 4, 5, 4, 5, 5, 6, 3, 4, 4, 5, 4, 5, 5, 6, 4, 5, 5, 6, 5, 6, 6, 7, 3, 4, 4, 5, 4, 5, 5, 6, 4, 5, 5, 6, 5, 6, 6, 7, 4, 5, 5, 6, 5, 6, 6, 7, 5, 6, 6, 7, 6, 7, 7, 8] } : ByteArray) = s at ix0 ixn ⊢
  have hN := g.n; have hL : S.lock ≤ S.c := g.ok.1
  simp -implicitDefEqProofs (maxSteps := 1000000) (disch := (refine id ?_; first | ((fail_if_success (with_reducible apply isT_of)); (fail_if_success (first | fail)); first | omega | (with_reducible apply Gd.cl; with_reducible assumption) | with_reducible exact Low.rfl' _ | (simp only [flatR_int, flatR_bool, flatR_string, flatR_tuple, flatR_agg, flat_int, flat_bool, flat_string, flat_agg, flat0_int, flat0_bool, flat0_string, List.all_cons, List.all_nil, Bool.and_self, Bool.and_true, Bool.true_and]; done) | (simp only [objLt_row, objLt_dead, List.all_cons, List.all_nil, vlt1_int, vlt1_bool, vlt1_string, vlt1_nilp, vlt1_nils, vlt1_ptr, vlt1_sl, vlt1_func, vlt0_ptr, vlt0_sl, vlt0_int, vlt0_bool, vlt0_string, vlt0_nilp, vlt0_nils, vlt_int, vlt_bool, vlt_string, vlt_nilp, vlt_nils, vlt_ptr, vlt_sl, vlt_agg, vlt_func, List.toArray, Bool.and_true, Bool.true_and, Bool.and_self, Bool.and_eq_true, decide_eq_true_eq, and_true, true_and, new_c, upd_c, relock_c]; (try omega); done) | fail))) only [ix0, ixn, e1, e2, e3, e4, e5, gcR_some, ↓bindV_some, ↓bindS_some, bindV_some, bindS_some, wrap64, wrapu8, bin_add, bin_and, eq_self, and_self, Nat.zero_add, Bool.and_self, Nat.reduceAdd, Nat.reduceSub, Nat.reduceMul, Nat.reduceLeDiff, Nat.reduceLT, Nat.reduceEqDiff, Int.reduceLE, Int.reduceLT, Int.reduceAdd, Int.reduceNeg, Int.reduceEq, Int.reduceSub, Int.reduceMul, Int.reduceToNat, ↓reduceIte, reduceCtorEq, cv_5_3]
  have : ((0 : Int) + (pc n : Int)) = pc n := Int.zero_add _
  simp [this]
theorem count_eq (g : Gd W S) (n : Nat) (hn : n < 64) : cw W 32 #[u32 n] S = some (i64 (pc n), S) := by
  have e := ones_eq g n hn
  have e5 : Go.bits .and .u32 (n : Int) 63 = (n : Int) := by rw [mask63 n (by omega), Nat.mod_eq_of_lt hn]
  rw [eq32]
  have hN := g.n; have hL : S.lock ≤ S.c := g.ok.1
  simp -implicitDefEqProofs (maxSteps := 1000000) (disch := (refine id ?_; first | ((fail_if_success (with_reducible apply isT_of)); (fail_if_success (first | fail)); first | (with_reducible apply Gd.cl; with_reducible assumption) | with_reducible exact Low.rfl' _ | (simp only [flatR_int, flatR_bool, flatR_string, flatR_tuple, flatR_agg, flat_int, flat_bool, flat_string, flat_agg, flat0_int, flat0_bool, flat0_string, List.all_cons, List.all_nil, Bool.and_self, Bool.and_true, Bool.true_and]; done) | (simp only [objLt_row, objLt_dead, List.all_cons, List.all_nil, vlt1_int, vlt1_bool, vlt1_string, vlt1_nilp, vlt1_nils, vlt1_ptr, vlt1_sl, vlt1_func, vlt0_ptr, vlt0_sl, vlt0_int, vlt0_bool, vlt0_string, vlt0_nilp, vlt0_nils, vlt_int, vlt_bool, vlt_string, vlt_nilp, vlt_nils, vlt_ptr, vlt_sl, vlt_agg, vlt_func, List.toArray, Bool.and_true, Bool.true_and, Bool.and_self, Bool.and_eq_true, decide_eq_true_eq, and_true, true_and, new_c, upd_c, relock_c]; (try omega); done) | fail))) only [e, e5, gcR_some, ↓bindV_some, ↓bindS_some, bindV_some, bindS_some, bin_and, eq_self, and_self, Bool.and_self, Nat.reduceAdd, Nat.reduceSub, Nat.reduceMul, Nat.reduceLeDiff, Nat.reduceLT, Nat.reduceEqDiff, Int.reduceLE, Int.reduceLT, Int.reduceAdd, Int.reduceNeg, Int.reduceEq, Int.reduceSub, Int.reduceMul, Int.reduceToNat, ↓reduceIte, reduceCtorEq, call_53]
theorem far_eq (g : Gd W S) (n : Int) : cw W 18 #[i64 n] S = some (.bool (!inB n 0 1125899906842624), S) := by
  rw [eq18]
  have hN := g.n; have hL : S.lock ≤ S.c := g.ok.1
  simp -implicitDefEqProofs (maxSteps := 1000000) (disch := (refine id ?_; first | with_reducible assumption | ((fail_if_success (with_reducible apply isT_of)); (fail_if_success (first | fail)); first | (with_reducible apply Gd.cl; with_reducible assumption) | with_reducible exact Low.rfl' _ | (simp only [flatR_int, flatR_bool, flatR_string, flatR_tuple, flatR_agg, flat_int, flat_bool, flat_string, flat_agg, flat0_int, flat0_bool, flat0_string, List.all_cons, List.all_nil, Bool.and_self, Bool.and_true, Bool.true_and]; done) | (simp only [objLt_row, objLt_dead, List.all_cons, List.all_nil, vlt1_int, vlt1_bool, vlt1_string, vlt1_nilp, vlt1_nils, vlt1_ptr, vlt1_sl, vlt1_func, vlt0_ptr, vlt0_sl, vlt0_int, vlt0_bool, vlt0_string, vlt0_nilp, vlt0_nils, vlt_int, vlt_bool, vlt_string, vlt_nilp, vlt_nils, vlt_ptr, vlt_sl, vlt_agg, vlt_func, List.toArray, Bool.and_true, Bool.true_and, Bool.and_self, Bool.and_eq_true, decide_eq_true_eq, and_true, true_and, new_c, upd_c, relock_c]; (try omega); done) | fail))) only [gcR_some, ↓bindV_some, bindV_some, ↓gV_f, wV_pos, wO_val, pick_or, bin_lss, bin_gtr, eq_self, and_self, Bool.and_self, Nat.reduceAdd, Nat.reduceSub, Nat.reduceMul, Nat.reduceLeDiff, Nat.reduceLT, Nat.reduceEqDiff, Int.reduceLE, Int.reduceLT, Int.reduceAdd, Int.reduceNeg, Int.reduceEq, Int.reduceSub, Int.reduceMul, Int.reduceToNat, ↓reduceIte, decide_eq_true_eq, Bool.not_eq_true', Bool.or_eq_true, decide_eq_false_iff_not, reduceCtorEq]
  refine congrArg (fun b => some (Value.bool b, S)) ?_
  unfold inB
  rw [Bool.eq_iff_iff]
  simp only [Bool.or_eq_true, Bool.not_eq_true', decide_eq_true_eq, decide_eq_false_iff_not]
  omega
theorem rightC_eq (g : Gd W S) (d : Ct) : cw W 29 #[tv d] S = some (.bool (rightC d), S) := by
  have g1 : Gd W (S.new (.row (tcs d) 0)) := g.new rfl
  have e := fun (n lo hi : Int) => within_eq g1 n lo hi
  have ha : [tv d].all (vlt S.c) = true := by rw [List.all_cons, vlt_agg]; rfl
  rw [eq29]
  have hN := g.n; have hL : S.lock ≤ S.c := g.ok.1
  simp -implicitDefEqProofs (maxSteps := 1000000) (disch := (refine id ?_; first | with_reducible assumption | ((first | fail); (first | (simp +arith only [new_c, new_lock, upd_c, upd_lock, relock_c, relock_lock]; done) | fail)) | ((fail_if_success (with_reducible apply isT_of)); (fail_if_success (first | fail)); first | (simp +arith only [new_c, new_lock, upd_c, upd_lock, relock_c, relock_lock]; done) | (with_reducible apply Gd.cl; with_reducible assumption) | with_reducible exact Low.rfl' _ | (with_reducible refine Low.new ?_ _; (repeat (first | with_reducible exact Low.rfl' _ | with_reducible assumption )); done) | (simp only [flatR_int, flatR_bool, flatR_string, flatR_tuple, flatR_agg, flat_int, flat_bool, flat_string, flat_agg, flat0_int, flat0_bool, flat0_string, List.all_cons, List.all_nil, Bool.and_self, Bool.and_true, Bool.true_and]; done) | fail))) only [e, ha, gcR_some, ↓bindV_some, ↓bindS_some, bindV_some, bindS_some, ↓gV_t, ↓gV_f, wV_pos, wO_val, wS_val, pick_and, pick_or, bin_lss, bin_eql, box_agg, cell_at, cellOf_row, nth_zero, nth_succ, eq_self, new_at, Nat.zero_add, List.all_cons, Nat.reduceAdd, Nat.reduceSub, Nat.reduceMul, Nat.reduceLeDiff, Nat.reduceLT, Nat.reduceEqDiff, Int.reduceLE, Int.reduceLT, Int.reduceAdd, Int.reduceNeg, Int.reduceEq, Int.reduceSub, Int.reduceMul, Int.reduceToNat, ↓reduceIte, decide_eq_true_eq, Bool.and_eq_true, Bool.or_eq_true, reduceCtorEq, call_51, ld_2, ld_3, ld_27, fa_38_0, fa_38_1, fa_38_2, fa_38_3, fa_38_4]
  refine congrArg (fun b => some (Value.bool b, S)) ?_
  unfold rightC inB
  rw [Bool.eq_iff_iff]
  simp only [Bool.and_eq_true, Bool.or_eq_true, decide_eq_true_eq]
  omega
theorem Control_bad (g : Gd W S) (d : Ct) (hr : rightC d = false) : cw W 17 #[tv d] S = some (.tuple #[.slice none 0 0, i64 1], S.new (.row (tcs d) 0)) := by
  have g1 : Gd W (S.new (.row (tcs d) 0)) := g.new rfl
  have er := rightC_eq g1 d
  rw [hr] at er
  rw [eq17]
  have hN := g.n; have hL : S.lock ≤ S.c := g.ok.1
  simp -implicitDefEqProofs (maxSteps := 1000000) (disch := (refine id ?_; first | ((first | fail); (first | fail)) | ((fail_if_success (with_reducible apply isT_of)); (fail_if_success (first | fail)); first | omega | (with_reducible refine Low.new ?_ _; (repeat (first | refine Low.upd ?_ (by (first | omega )) _)); done) | (with_reducible refine Low.upd ?_ (by (first | omega )) _; (repeat (first | refine Low.upd ?_ (by (first | omega )) _)); done) | (with_reducible refine Gd.new ?_ (by (simp only [objLt_row, objLt_dead, List.all_cons, List.all_nil, vlt1_int, vlt1_bool, vlt1_string, vlt1_nilp, vlt1_nils, vlt1_ptr, vlt1_sl, vlt1_func, vlt0_ptr, vlt0_sl, vlt0_int, vlt0_bool, vlt0_string, vlt0_nilp, vlt0_nils, vlt_int, vlt_bool, vlt_string, vlt_nilp, vlt_nils, vlt_ptr, vlt_sl, vlt_agg, vlt_func, List.toArray, Bool.and_true, Bool.true_and, Bool.and_self, Bool.and_eq_true, decide_eq_true_eq, and_true, true_and, new_c, upd_c, relock_c] <;> omega)); (repeat (first | refine Gd.upd ?_ (by (first | omega )) (by (simp only [objLt_row, objLt_dead, List.all_cons, List.all_nil, vlt1_int, vlt1_bool, vlt1_string, vlt1_nilp, vlt1_nils, vlt1_ptr, vlt1_sl, vlt1_func, vlt0_ptr, vlt0_sl, vlt0_int, vlt0_bool, vlt0_string, vlt0_nilp, vlt0_nils, vlt_int, vlt_bool, vlt_string, vlt_nilp, vlt_nils, vlt_ptr, vlt_sl, vlt_agg, vlt_func, List.toArray, Bool.and_true, Bool.true_and, Bool.and_self, Bool.and_eq_true, decide_eq_true_eq, and_true, true_and, new_c, upd_c, relock_c] <;> omega)) )); done) | (with_reducible refine Gd.upd ?_ (by (first | omega )) (by (simp only [objLt_row, objLt_dead, List.all_cons, List.all_nil, vlt1_int, vlt1_bool, vlt1_string, vlt1_nilp, vlt1_nils, vlt1_ptr, vlt1_sl, vlt1_func, vlt0_ptr, vlt0_sl, vlt0_int, vlt0_bool, vlt0_string, vlt0_nilp, vlt0_nils, vlt_int, vlt_bool, vlt_string, vlt_nilp, vlt_nils, vlt_ptr, vlt_sl, vlt_agg, vlt_func, List.toArray, Bool.and_true, Bool.true_and, Bool.and_self, Bool.and_eq_true, decide_eq_true_eq, and_true, true_and, new_c, upd_c, relock_c] <;> omega)); (repeat (first | refine Gd.upd ?_ (by (first | omega )) (by (simp only [objLt_row, objLt_dead, List.all_cons, List.all_nil, vlt1_int, vlt1_bool, vlt1_string, vlt1_nilp, vlt1_nils, vlt1_ptr, vlt1_sl, vlt1_func, vlt0_ptr, vlt0_sl, vlt0_int, vlt0_bool, vlt0_string, vlt0_nilp, vlt0_nils, vlt_int, vlt_bool, vlt_string, vlt_nilp, vlt_nils, vlt_ptr, vlt_sl, vlt_agg, vlt_func, List.toArray, Bool.and_true, Bool.true_and, Bool.and_self, Bool.and_eq_true, decide_eq_true_eq, and_true, true_and, new_c, upd_c, relock_c] <;> omega)) )); done) | (with_reducible refine Gd.relock2 ?_ ?_; rotate_left; simp only [new_c, upd_c, relock_c]; (repeat (first | refine Gd.upd ?_ (by (first | omega )) (by (simp only [objLt_row, objLt_dead, List.all_cons, List.all_nil, vlt1_int, vlt1_bool, vlt1_string, vlt1_nilp, vlt1_nils, vlt1_ptr, vlt1_sl, vlt1_func, vlt0_ptr, vlt0_sl, vlt0_int, vlt0_bool, vlt0_string, vlt0_nilp, vlt0_nils, vlt_int, vlt_bool, vlt_string, vlt_nilp, vlt_nils, vlt_ptr, vlt_sl, vlt_agg, vlt_func, List.toArray, Bool.and_true, Bool.true_and, Bool.and_self, Bool.and_eq_true, decide_eq_true_eq, and_true, true_and, new_c, upd_c, relock_c] <;> omega)) )); done) | (with_reducible refine nat_eq_id ?_; first | fail) | (with_reducible refine Rd.low (by with_reducible assumption) ?_; (repeat (first | refine Low.upd ?_ (by (first | omega )) _)); done) | ((first | fail); simp only [IsT, decide_eq_true_eq, Bool.and_eq_true, Bool.or_eq_true, Bool.not_eq_true', decide_eq_false_iff_not] at *; omega) | fail))) only [er, ↓bindV_some, ↓bindS_some, ↓condB_true, bindV_some, bindS_some, ↓condK_B, un_not, box_agg, cell_at, cells_at, cellOf_row, cellsOf_row, nth_zero, nth_succ, aggOf_some, eq_self, new_at, new_lo, new_c, Bool.not_false, Nat.zero_add, List.length_cons, List.length_nil, List.drop_zero, List.take_succ_cons, List.take_zero, Nat.reduceAdd, Nat.reduceSub, Nat.reduceMul, Nat.reduceLeDiff, Nat.reduceLT, Nat.reduceEqDiff, Int.reduceLE, Int.reduceLT, Int.reduceAdd, Int.reduceNeg, Int.reduceEq, Int.reduceSub, Int.reduceMul, Int.reduceToNat, ↓reduceIte, Nat.le_refl, reduceCtorEq, call_29, call_30, call_31, ld_2, ld_3, ld_27, fa_38_0, fa_38_1, fa_38_2, fa_38_3, fa_38_4, ld_38, bs_55_4_0_1_2_3, cv_2_78, cv_3_5]
theorem gr_made {l : List Value} (g : Gd W S) (hl : 0 < l.length) : Gr (S.new (.row l 0)) (.slice (some ⟨S.c, 0, none⟩) l.length l.length) 1 l :=
  .inr ⟨S.c, l.length, rfl, g.ok.1, new_self _, by omega, hl⟩
set_option maxHeartbeats 1000000 in
theorem Control_good (g : Gd W S) (d : Ct) (hr : rightC d = true) : Wp (cw W 17 #[tv d] S) (fun r => ∃ v, r.1 = .tuple #[v, i64 0] ∧ Gd W r.2 ∧ Low S r.2 ∧ Gr r.2 v 1 (u8s (sealI (controlB d))) ∧ ∀ j, j ∈ blkOf v → S.c ≤ j) := by
  have hb : (d.k = 1 ∨ d.k = 2) ∧ 0 ≤ d.f ∧ d.f ≤ 7 ∧ 0 ≤ d.cy ∧ d.cy ≤ 1125899906842624 ∧ d.cr < 64 ∧ 0 ≤ d.cl ∧ d.cl ≤ 1048576 := of_decide_eq_true hr
  obtain ⟨hk, hf0, hf7, hc0, hc1, hcr, hl0, hl1⟩ := hb
  have g1 : Gd W (S.new (.row (tcs d) 0)) := g.new rfl
  have er := rightC_eq g1 d
  rw [hr] at er
  have w1 := wrapu8 (x := d.k) (by omega) (by omega)
  have w2 := wrapu8 (x := d.f) (by omega) (by omega)
  have w3 := wrapu64 (x := d.cy) (by omega) (by omega)
  have w4 := wrapu64 (x := (d.cr : Int)) (by omega) (by omega)
  have w5 := wrapu64 (x := d.cl) (by omega) (by omega)
  have hS1 : ∀ T : St, Ext [] (S.new (.row (tcs d) 0)) T → T.heap S.c = .row (tcs d) 0 := fun T x => (x.same S.c (Nat.lt_succ_self _) (by simp)).trans (new_self _)
  have g2 : Gd W ((S.new (.row (tcs d) 0)).new (.row [.int .u8 137, .int .u8 29, .int .u8 d.k, .int .u8 d.f] 0)) := g1.new rfl
  have n1 : Gr ((S.new (.row (tcs d) 0)).new (.row [.int .u8 137, .int .u8 29, .int .u8 d.k, .int .u8 d.f] 0)) (.slice (some ⟨S.c + 1, 0, none⟩) 4 4) 1 (u8s (headC d)) := gr_made (l := u8s (headC d)) g1 (by simp [headC])
  have x2 : Ext [] (S.new (.row (tcs d) 0)) ((S.new (.row (tcs d) 0)).new (.row [.int .u8 137, .int .u8 29, .int .u8 d.k, .int .u8 d.f] 0)) := Ext.new g1.ok rfl
  have l2 : Low S ((S.new (.row (tcs d) 0)).new (.row [.int .u8 137, .int .u8 29, .int .u8 d.k, .int .u8 d.f] 0)) := ((Low.rfl' S).new _).new _
  have q1 : ((S.new (.row (tcs d) 0)).new (.row [.int .u8 137, .int .u8 29, .int .u8 d.k, .int .u8 d.f] 0)).c = S.c + 1 + 1 := rfl
  have h1 : ((S.new (.row (tcs d) 0)).new (.row [.int .u8 137, .int .u8 29, .int .u8 d.k, .int .u8 d.f] 0)).heap S.c = .row (tcs d) 0 := hS1 _ x2
  rw [eq17]
  have hN := g.n; have hL : S.lock ≤ S.c := g.ok.1
  simp -implicitDefEqProofs (maxSteps := 1000000) (disch := (refine id ?_; first | ((first | fail); (first | (simp +arith only [new_c, new_lock, upd_c, upd_lock, relock_c, relock_lock]; done) | fail)) | ((fail_if_success (with_reducible apply isT_of)); (fail_if_success (first | fail)); first | (simp +arith only [new_c, new_lock, upd_c, upd_lock, relock_c, relock_lock]; done) | omega | (with_reducible refine Low.new ?_ _; (repeat (first | refine Low.upd ?_ (by (first | omega )) _)); done) | (with_reducible refine Low.upd ?_ (by (first | omega )) _; (repeat (first | refine Low.upd ?_ (by (first | omega )) _)); done) | (with_reducible refine Gd.new ?_ (by (simp only [objLt_row, objLt_dead, List.all_cons, List.all_nil, vlt1_int, vlt1_bool, vlt1_string, vlt1_nilp, vlt1_nils, vlt1_ptr, vlt1_sl, vlt1_func, vlt0_ptr, vlt0_sl, vlt0_int, vlt0_bool, vlt0_string, vlt0_nilp, vlt0_nils, vlt_int, vlt_bool, vlt_string, vlt_nilp, vlt_nils, vlt_ptr, vlt_sl, vlt_agg, vlt_func, List.toArray, Bool.and_true, Bool.true_and, Bool.and_self, Bool.and_eq_true, decide_eq_true_eq, and_true, true_and, new_c, upd_c, relock_c] <;> omega)); (repeat (first | refine Gd.upd ?_ (by (first | omega )) (by (simp only [objLt_row, objLt_dead, List.all_cons, List.all_nil, vlt1_int, vlt1_bool, vlt1_string, vlt1_nilp, vlt1_nils, vlt1_ptr, vlt1_sl, vlt1_func, vlt0_ptr, vlt0_sl, vlt0_int, vlt0_bool, vlt0_string, vlt0_nilp, vlt0_nils, vlt_int, vlt_bool, vlt_string, vlt_nilp, vlt_nils, vlt_ptr, vlt_sl, vlt_agg, vlt_func, List.toArray, Bool.and_true, Bool.true_and, Bool.and_self, Bool.and_eq_true, decide_eq_true_eq, and_true, true_and, new_c, upd_c, relock_c] <;> omega)) )); done) | (with_reducible refine Gd.upd ?_ (by (first | omega )) (by (simp only [objLt_row, objLt_dead, List.all_cons, List.all_nil, vlt1_int, vlt1_bool, vlt1_string, vlt1_nilp, vlt1_nils, vlt1_ptr, vlt1_sl, vlt1_func, vlt0_ptr, vlt0_sl, vlt0_int, vlt0_bool, vlt0_string, vlt0_nilp, vlt0_nils, vlt_int, vlt_bool, vlt_string, vlt_nilp, vlt_nils, vlt_ptr, vlt_sl, vlt_agg, vlt_func, List.toArray, Bool.and_true, Bool.true_and, Bool.and_self, Bool.and_eq_true, decide_eq_true_eq, and_true, true_and, new_c, upd_c, relock_c] <;> omega)); (repeat (first | refine Gd.upd ?_ (by (first | omega )) (by (simp only [objLt_row, objLt_dead, List.all_cons, List.all_nil, vlt1_int, vlt1_bool, vlt1_string, vlt1_nilp, vlt1_nils, vlt1_ptr, vlt1_sl, vlt1_func, vlt0_ptr, vlt0_sl, vlt0_int, vlt0_bool, vlt0_string, vlt0_nilp, vlt0_nils, vlt_int, vlt_bool, vlt_string, vlt_nilp, vlt_nils, vlt_ptr, vlt_sl, vlt_agg, vlt_func, List.toArray, Bool.and_true, Bool.true_and, Bool.and_self, Bool.and_eq_true, decide_eq_true_eq, and_true, true_and, new_c, upd_c, relock_c] <;> omega)) )); done) | (with_reducible refine Gd.relock2 ?_ ?_; rotate_left; simp only [new_c, upd_c, relock_c]; (repeat (first | refine Gd.upd ?_ (by (first | omega )) (by (simp only [objLt_row, objLt_dead, List.all_cons, List.all_nil, vlt1_int, vlt1_bool, vlt1_string, vlt1_nilp, vlt1_nils, vlt1_ptr, vlt1_sl, vlt1_func, vlt0_ptr, vlt0_sl, vlt0_int, vlt0_bool, vlt0_string, vlt0_nilp, vlt0_nils, vlt_int, vlt_bool, vlt_string, vlt_nilp, vlt_nils, vlt_ptr, vlt_sl, vlt_agg, vlt_func, List.toArray, Bool.and_true, Bool.true_and, Bool.and_self, Bool.and_eq_true, decide_eq_true_eq, and_true, true_and, new_c, upd_c, relock_c] <;> omega)) )); done) | (with_reducible refine nat_eq_id ?_; first | fail) | (with_reducible refine Rd.low (by with_reducible assumption) ?_; (repeat (first | refine Low.upd ?_ (by (first | omega )) _)); done) | ((first | fail); simp only [IsT, decide_eq_true_eq, Bool.and_eq_true, Bool.or_eq_true, Bool.not_eq_true', decide_eq_false_iff_not] at *; omega) | fail))) only [er, w1, w2, w3, w4, w5, ↓bindV_some, ↓bindS_some, ↓condB_false, bindV_some, bindS_some, wrapu8, wrapu64, ↓condK_B, un_not, box_agg, cell_at, cells_at, cellOf_row, cellsOf_row, nth_zero, nth_succ, aggOf_some, new_self, new_at, new_lo, new_c, or_false, or_self, Bool.not_true, Nat.zero_add, List.length_cons, List.length_nil, List.drop_zero, List.take_succ_cons, List.take_zero, not_false_eq_true, Nat.reduceAdd, Nat.reduceSub, Nat.reduceMul, Nat.reduceLeDiff, Nat.reduceLT, Nat.reduceEqDiff, Int.reduceLE, Int.reduceLT, Int.reduceAdd, Int.reduceNeg, Int.reduceEq, Int.reduceSub, Int.reduceMul, Int.reduceToNat, Bool.or_false, ↓reduceIte, Nat.le_refl, reduceCtorEq, call_29, call_30, call_31, ld_2, ld_3, ld_27, fa_38_0, fa_38_1, fa_38_2, fa_38_3, fa_38_4, ld_38, bs_55_4_0_1_2_3, cv_2_78, cv_3_5, cv_27_78]
  generalize ((S.new (.row [.int .i64 d.k, .int .i64 d.f, .int .i64 d.cy, .int .u32 (d.cr : Int), .int .i64 d.cl] 0)).new (.row [.int .u8 137, .int .u8 29, .int .u8 d.k, .int .u8 d.f] 0)) = S2 at *
  refine Wp.bS (put_ok g2 n1 d.cy 8 (by omega) (by simp [headC]) 8 rfl fun v3 S3 g3 n3 x3 b3 => ?_)
  have h3 : S3.heap S.c = .row (tcs d) 0 := (x3.same S.c (by omega) (by simp [blkOf])).trans h1
  have l3 : Low S S3 := Low.ext l2 x3 (fun i hi => by simp [blkOf] at hi; omega)
  have c3 := x3.c
  have d3 : ∀ j, j ∈ blkOf v3 → S.c + 1 ≤ j := fun j hj => (b3 j hj).elim (fun h => by first | exact absurd j h | (simp [blkOf] at h; omega)) (fun h => by omega)
  have hN := g.n; have hL : S.lock ≤ S.c := g.ok.1
  simp -implicitDefEqProofs (maxSteps := 1000000) (disch := (refine id ?_; first | ((first | fail); (first | (simp +arith only [new_c, new_lock, upd_c, upd_lock, relock_c, relock_lock]; done) | fail)) | ((fail_if_success (with_reducible apply isT_of)); (fail_if_success (first | fail)); first | (simp +arith only [new_c, new_lock, upd_c, upd_lock, relock_c, relock_lock]; done) | omega | (with_reducible refine Low.new ?_ _; (repeat (first | refine Low.upd ?_ (by (first | omega )) _)); done) | (with_reducible refine Low.upd ?_ (by (first | omega )) _; (repeat (first | refine Low.upd ?_ (by (first | omega )) _)); done) | (with_reducible refine Gd.new ?_ (by (simp only [objLt_row, objLt_dead, List.all_cons, List.all_nil, vlt1_int, vlt1_bool, vlt1_string, vlt1_nilp, vlt1_nils, vlt1_ptr, vlt1_sl, vlt1_func, vlt0_ptr, vlt0_sl, vlt0_int, vlt0_bool, vlt0_string, vlt0_nilp, vlt0_nils, vlt_int, vlt_bool, vlt_string, vlt_nilp, vlt_nils, vlt_ptr, vlt_sl, vlt_agg, vlt_func, List.toArray, Bool.and_true, Bool.true_and, Bool.and_self, Bool.and_eq_true, decide_eq_true_eq, and_true, true_and, new_c, upd_c, relock_c] <;> omega)); (repeat (first | refine Gd.upd ?_ (by (first | omega )) (by (simp only [objLt_row, objLt_dead, List.all_cons, List.all_nil, vlt1_int, vlt1_bool, vlt1_string, vlt1_nilp, vlt1_nils, vlt1_ptr, vlt1_sl, vlt1_func, vlt0_ptr, vlt0_sl, vlt0_int, vlt0_bool, vlt0_string, vlt0_nilp, vlt0_nils, vlt_int, vlt_bool, vlt_string, vlt_nilp, vlt_nils, vlt_ptr, vlt_sl, vlt_agg, vlt_func, List.toArray, Bool.and_true, Bool.true_and, Bool.and_self, Bool.and_eq_true, decide_eq_true_eq, and_true, true_and, new_c, upd_c, relock_c] <;> omega)) )); done) | (with_reducible refine Gd.upd ?_ (by (first | omega )) (by (simp only [objLt_row, objLt_dead, List.all_cons, List.all_nil, vlt1_int, vlt1_bool, vlt1_string, vlt1_nilp, vlt1_nils, vlt1_ptr, vlt1_sl, vlt1_func, vlt0_ptr, vlt0_sl, vlt0_int, vlt0_bool, vlt0_string, vlt0_nilp, vlt0_nils, vlt_int, vlt_bool, vlt_string, vlt_nilp, vlt_nils, vlt_ptr, vlt_sl, vlt_agg, vlt_func, List.toArray, Bool.and_true, Bool.true_and, Bool.and_self, Bool.and_eq_true, decide_eq_true_eq, and_true, true_and, new_c, upd_c, relock_c] <;> omega)); (repeat (first | refine Gd.upd ?_ (by (first | omega )) (by (simp only [objLt_row, objLt_dead, List.all_cons, List.all_nil, vlt1_int, vlt1_bool, vlt1_string, vlt1_nilp, vlt1_nils, vlt1_ptr, vlt1_sl, vlt1_func, vlt0_ptr, vlt0_sl, vlt0_int, vlt0_bool, vlt0_string, vlt0_nilp, vlt0_nils, vlt_int, vlt_bool, vlt_string, vlt_nilp, vlt_nils, vlt_ptr, vlt_sl, vlt_agg, vlt_func, List.toArray, Bool.and_true, Bool.true_and, Bool.and_self, Bool.and_eq_true, decide_eq_true_eq, and_true, true_and, new_c, upd_c, relock_c] <;> omega)) )); done) | (with_reducible refine Gd.relock2 ?_ ?_; rotate_left; simp only [new_c, upd_c, relock_c]; (repeat (first | refine Gd.upd ?_ (by (first | omega )) (by (simp only [objLt_row, objLt_dead, List.all_cons, List.all_nil, vlt1_int, vlt1_bool, vlt1_string, vlt1_nilp, vlt1_nils, vlt1_ptr, vlt1_sl, vlt1_func, vlt0_ptr, vlt0_sl, vlt0_int, vlt0_bool, vlt0_string, vlt0_nilp, vlt0_nils, vlt_int, vlt_bool, vlt_string, vlt_nilp, vlt_nils, vlt_ptr, vlt_sl, vlt_agg, vlt_func, List.toArray, Bool.and_true, Bool.true_and, Bool.and_self, Bool.and_eq_true, decide_eq_true_eq, and_true, true_and, new_c, upd_c, relock_c] <;> omega)) )); done) | (with_reducible refine nat_eq_id ?_; first | fail) | (with_reducible refine Rd.low (by with_reducible assumption) ?_; (repeat (first | refine Low.upd ?_ (by (first | omega )) _)); done) | ((first | fail); simp only [IsT, decide_eq_true_eq, Bool.and_eq_true, Bool.or_eq_true, Bool.not_eq_true', decide_eq_false_iff_not] at *; omega) | fail))) only [h3, w4, ↓bindV_some, ↓bindS_some, ↓condB_false, bindV_some, bindS_some, wrapu8, wrapu64, ↓condK_B, un_not, box_agg, cell_at, cells_at, cellOf_row, cellsOf_row, nth_zero, nth_succ, aggOf_some, new_self, new_at, new_lo, new_c, or_false, or_self, Bool.not_true, Nat.zero_add, List.length_cons, List.length_nil, List.drop_zero, List.take_succ_cons, List.take_zero, not_false_eq_true, Nat.reduceAdd, Nat.reduceSub, Nat.reduceMul, Nat.reduceLeDiff, Nat.reduceLT, Nat.reduceEqDiff, Int.reduceLE, Int.reduceLT, Int.reduceAdd, Int.reduceNeg, Int.reduceEq, Int.reduceSub, Int.reduceMul, Int.reduceToNat, Bool.or_false, ↓reduceIte, Nat.le_refl, reduceCtorEq, call_29, call_30, call_31, ld_2, ld_3, ld_27, fa_38_0, fa_38_1, fa_38_2, fa_38_3, fa_38_4, ld_38, bs_55_4_0_1_2_3, cv_2_78, cv_3_5, cv_27_78]
  refine Wp.bS (put_ok g3 n3 (d.cr : Int) 4 (by omega) (by simp [headC, putI_len]) 4 rfl fun v4 S4 g4 n4 x4 b4 => ?_)
  have h4 : S4.heap S.c = .row (tcs d) 0 := (x4.same S.c (by omega) (fun h => by have := d3 _ h; omega)).trans h3
  have l4 : Low S S4 := Low.ext l3 x4 (fun i hi => by have := d3 i hi; omega)
  have c4 := x4.c
  have d4 : ∀ j, j ∈ blkOf v4 → S.c + 1 ≤ j := fun j hj => (b4 j hj).elim (fun h => by first | exact d3 j h | (simp [blkOf] at h; omega)) (fun h => by omega)
  have hN := g.n; have hL : S.lock ≤ S.c := g.ok.1
  simp -implicitDefEqProofs (maxSteps := 1000000) (disch := (refine id ?_; first | ((first | fail); (first | (simp +arith only [new_c, new_lock, upd_c, upd_lock, relock_c, relock_lock]; done) | fail)) | ((fail_if_success (with_reducible apply isT_of)); (fail_if_success (first | fail)); first | (simp +arith only [new_c, new_lock, upd_c, upd_lock, relock_c, relock_lock]; done) | omega | (with_reducible refine Low.new ?_ _; (repeat (first | refine Low.upd ?_ (by (first | omega )) _)); done) | (with_reducible refine Low.upd ?_ (by (first | omega )) _; (repeat (first | refine Low.upd ?_ (by (first | omega )) _)); done) | (with_reducible refine Gd.new ?_ (by (simp only [objLt_row, objLt_dead, List.all_cons, List.all_nil, vlt1_int, vlt1_bool, vlt1_string, vlt1_nilp, vlt1_nils, vlt1_ptr, vlt1_sl, vlt1_func, vlt0_ptr, vlt0_sl, vlt0_int, vlt0_bool, vlt0_string, vlt0_nilp, vlt0_nils, vlt_int, vlt_bool, vlt_string, vlt_nilp, vlt_nils, vlt_ptr, vlt_sl, vlt_agg, vlt_func, List.toArray, Bool.and_true, Bool.true_and, Bool.and_self, Bool.and_eq_true, decide_eq_true_eq, and_true, true_and, new_c, upd_c, relock_c] <;> omega)); (repeat (first | refine Gd.upd ?_ (by (first | omega )) (by (simp only [objLt_row, objLt_dead, List.all_cons, List.all_nil, vlt1_int, vlt1_bool, vlt1_string, vlt1_nilp, vlt1_nils, vlt1_ptr, vlt1_sl, vlt1_func, vlt0_ptr, vlt0_sl, vlt0_int, vlt0_bool, vlt0_string, vlt0_nilp, vlt0_nils, vlt_int, vlt_bool, vlt_string, vlt_nilp, vlt_nils, vlt_ptr, vlt_sl, vlt_agg, vlt_func, List.toArray, Bool.and_true, Bool.true_and, Bool.and_self, Bool.and_eq_true, decide_eq_true_eq, and_true, true_and, new_c, upd_c, relock_c] <;> omega)) )); done) | (with_reducible refine Gd.upd ?_ (by (first | omega )) (by (simp only [objLt_row, objLt_dead, List.all_cons, List.all_nil, vlt1_int, vlt1_bool, vlt1_string, vlt1_nilp, vlt1_nils, vlt1_ptr, vlt1_sl, vlt1_func, vlt0_ptr, vlt0_sl, vlt0_int, vlt0_bool, vlt0_string, vlt0_nilp, vlt0_nils, vlt_int, vlt_bool, vlt_string, vlt_nilp, vlt_nils, vlt_ptr, vlt_sl, vlt_agg, vlt_func, List.toArray, Bool.and_true, Bool.true_and, Bool.and_self, Bool.and_eq_true, decide_eq_true_eq, and_true, true_and, new_c, upd_c, relock_c] <;> omega)); (repeat (first | refine Gd.upd ?_ (by (first | omega )) (by (simp only [objLt_row, objLt_dead, List.all_cons, List.all_nil, vlt1_int, vlt1_bool, vlt1_string, vlt1_nilp, vlt1_nils, vlt1_ptr, vlt1_sl, vlt1_func, vlt0_ptr, vlt0_sl, vlt0_int, vlt0_bool, vlt0_string, vlt0_nilp, vlt0_nils, vlt_int, vlt_bool, vlt_string, vlt_nilp, vlt_nils, vlt_ptr, vlt_sl, vlt_agg, vlt_func, List.toArray, Bool.and_true, Bool.true_and, Bool.and_self, Bool.and_eq_true, decide_eq_true_eq, and_true, true_and, new_c, upd_c, relock_c] <;> omega)) )); done) | (with_reducible refine Gd.relock2 ?_ ?_; rotate_left; simp only [new_c, upd_c, relock_c]; (repeat (first | refine Gd.upd ?_ (by (first | omega )) (by (simp only [objLt_row, objLt_dead, List.all_cons, List.all_nil, vlt1_int, vlt1_bool, vlt1_string, vlt1_nilp, vlt1_nils, vlt1_ptr, vlt1_sl, vlt1_func, vlt0_ptr, vlt0_sl, vlt0_int, vlt0_bool, vlt0_string, vlt0_nilp, vlt0_nils, vlt_int, vlt_bool, vlt_string, vlt_nilp, vlt_nils, vlt_ptr, vlt_sl, vlt_agg, vlt_func, List.toArray, Bool.and_true, Bool.true_and, Bool.and_self, Bool.and_eq_true, decide_eq_true_eq, and_true, true_and, new_c, upd_c, relock_c] <;> omega)) )); done) | (with_reducible refine nat_eq_id ?_; first | fail) | (with_reducible refine Rd.low (by with_reducible assumption) ?_; (repeat (first | refine Low.upd ?_ (by (first | omega )) _)); done) | ((first | fail); simp only [IsT, decide_eq_true_eq, Bool.and_eq_true, Bool.or_eq_true, Bool.not_eq_true', decide_eq_false_iff_not] at *; omega) | fail))) only [h4, w5, ↓bindV_some, ↓bindS_some, ↓condB_false, bindV_some, bindS_some, wrapu8, wrapu64, ↓condK_B, un_not, box_agg, cell_at, cells_at, cellOf_row, cellsOf_row, nth_zero, nth_succ, aggOf_some, new_self, new_at, new_lo, new_c, or_false, or_self, Bool.not_true, Nat.zero_add, List.length_cons, List.length_nil, List.drop_zero, List.take_succ_cons, List.take_zero, not_false_eq_true, Nat.reduceAdd, Nat.reduceSub, Nat.reduceMul, Nat.reduceLeDiff, Nat.reduceLT, Nat.reduceEqDiff, Int.reduceLE, Int.reduceLT, Int.reduceAdd, Int.reduceNeg, Int.reduceEq, Int.reduceSub, Int.reduceMul, Int.reduceToNat, Bool.or_false, ↓reduceIte, Nat.le_refl, reduceCtorEq, call_29, call_30, call_31, ld_2, ld_3, ld_27, fa_38_0, fa_38_1, fa_38_2, fa_38_3, fa_38_4, ld_38, bs_55_4_0_1_2_3, cv_2_78, cv_3_5, cv_27_78]
  refine Wp.bS (put_ok g4 n4 d.cl 8 (by omega) (by simp [headC, putI_len]) 8 rfl fun v5 S5 g5 n5 x5 b5 => ?_)
  have l5 : Low S S5 := Low.ext l4 x5 (fun i hi => by have := d4 i hi; omega)
  have c5 := x5.c
  have d5 : ∀ j, j ∈ blkOf v5 → S.c + 1 ≤ j := fun j hj => (b5 j hj).elim (fun h => by first | exact d4 j h | (simp [blkOf] at h; omega)) (fun h => by omega)
  have hN := g.n; have hL : S.lock ≤ S.c := g.ok.1
  simp -implicitDefEqProofs (maxSteps := 1000000) (disch := (refine id ?_; first | ((first | fail); (first | (simp +arith only [new_c, new_lock, upd_c, upd_lock, relock_c, relock_lock]; done) | fail)) | ((fail_if_success (with_reducible apply isT_of)); (fail_if_success (first | fail)); first | (simp +arith only [new_c, new_lock, upd_c, upd_lock, relock_c, relock_lock]; done) | omega | (with_reducible refine Low.new ?_ _; (repeat (first | refine Low.upd ?_ (by (first | omega )) _)); done) | (with_reducible refine Low.upd ?_ (by (first | omega )) _; (repeat (first | refine Low.upd ?_ (by (first | omega )) _)); done) | (with_reducible refine Gd.new ?_ (by (simp only [objLt_row, objLt_dead, List.all_cons, List.all_nil, vlt1_int, vlt1_bool, vlt1_string, vlt1_nilp, vlt1_nils, vlt1_ptr, vlt1_sl, vlt1_func, vlt0_ptr, vlt0_sl, vlt0_int, vlt0_bool, vlt0_string, vlt0_nilp, vlt0_nils, vlt_int, vlt_bool, vlt_string, vlt_nilp, vlt_nils, vlt_ptr, vlt_sl, vlt_agg, vlt_func, List.toArray, Bool.and_true, Bool.true_and, Bool.and_self, Bool.and_eq_true, decide_eq_true_eq, and_true, true_and, new_c, upd_c, relock_c] <;> omega)); (repeat (first | refine Gd.upd ?_ (by (first | omega )) (by (simp only [objLt_row, objLt_dead, List.all_cons, List.all_nil, vlt1_int, vlt1_bool, vlt1_string, vlt1_nilp, vlt1_nils, vlt1_ptr, vlt1_sl, vlt1_func, vlt0_ptr, vlt0_sl, vlt0_int, vlt0_bool, vlt0_string, vlt0_nilp, vlt0_nils, vlt_int, vlt_bool, vlt_string, vlt_nilp, vlt_nils, vlt_ptr, vlt_sl, vlt_agg, vlt_func, List.toArray, Bool.and_true, Bool.true_and, Bool.and_self, Bool.and_eq_true, decide_eq_true_eq, and_true, true_and, new_c, upd_c, relock_c] <;> omega)) )); done) | (with_reducible refine Gd.upd ?_ (by (first | omega )) (by (simp only [objLt_row, objLt_dead, List.all_cons, List.all_nil, vlt1_int, vlt1_bool, vlt1_string, vlt1_nilp, vlt1_nils, vlt1_ptr, vlt1_sl, vlt1_func, vlt0_ptr, vlt0_sl, vlt0_int, vlt0_bool, vlt0_string, vlt0_nilp, vlt0_nils, vlt_int, vlt_bool, vlt_string, vlt_nilp, vlt_nils, vlt_ptr, vlt_sl, vlt_agg, vlt_func, List.toArray, Bool.and_true, Bool.true_and, Bool.and_self, Bool.and_eq_true, decide_eq_true_eq, and_true, true_and, new_c, upd_c, relock_c] <;> omega)); (repeat (first | refine Gd.upd ?_ (by (first | omega )) (by (simp only [objLt_row, objLt_dead, List.all_cons, List.all_nil, vlt1_int, vlt1_bool, vlt1_string, vlt1_nilp, vlt1_nils, vlt1_ptr, vlt1_sl, vlt1_func, vlt0_ptr, vlt0_sl, vlt0_int, vlt0_bool, vlt0_string, vlt0_nilp, vlt0_nils, vlt_int, vlt_bool, vlt_string, vlt_nilp, vlt_nils, vlt_ptr, vlt_sl, vlt_agg, vlt_func, List.toArray, Bool.and_true, Bool.true_and, Bool.and_self, Bool.and_eq_true, decide_eq_true_eq, and_true, true_and, new_c, upd_c, relock_c] <;> omega)) )); done) | (with_reducible refine Gd.relock2 ?_ ?_; rotate_left; simp only [new_c, upd_c, relock_c]; (repeat (first | refine Gd.upd ?_ (by (first | omega )) (by (simp only [objLt_row, objLt_dead, List.all_cons, List.all_nil, vlt1_int, vlt1_bool, vlt1_string, vlt1_nilp, vlt1_nils, vlt1_ptr, vlt1_sl, vlt1_func, vlt0_ptr, vlt0_sl, vlt0_int, vlt0_bool, vlt0_string, vlt0_nilp, vlt0_nils, vlt_int, vlt_bool, vlt_string, vlt_nilp, vlt_nils, vlt_ptr, vlt_sl, vlt_agg, vlt_func, List.toArray, Bool.and_true, Bool.true_and, Bool.and_self, Bool.and_eq_true, decide_eq_true_eq, and_true, true_and, new_c, upd_c, relock_c] <;> omega)) )); done) | (with_reducible refine nat_eq_id ?_; first | fail) | (with_reducible refine Rd.low (by with_reducible assumption) ?_; (repeat (first | refine Low.upd ?_ (by (first | omega )) _)); done) | ((first | fail); simp only [IsT, decide_eq_true_eq, Bool.and_eq_true, Bool.or_eq_true, Bool.not_eq_true', decide_eq_false_iff_not] at *; omega) | fail))) only [↓bindV_some, ↓bindS_some, ↓condB_false, bindV_some, bindS_some, wrapu8, wrapu64, ↓condK_B, un_not, box_agg, cell_at, cells_at, cellOf_row, cellsOf_row, nth_zero, nth_succ, aggOf_some, new_self, new_at, new_lo, new_c, or_false, or_self, Bool.not_true, Nat.zero_add, List.length_cons, List.length_nil, List.drop_zero, List.take_succ_cons, List.take_zero, not_false_eq_true, Nat.reduceAdd, Nat.reduceSub, Nat.reduceMul, Nat.reduceLeDiff, Nat.reduceLT, Nat.reduceEqDiff, Int.reduceLE, Int.reduceLT, Int.reduceAdd, Int.reduceNeg, Int.reduceEq, Int.reduceSub, Int.reduceMul, Int.reduceToNat, Bool.or_false, ↓reduceIte, Nat.le_refl, reduceCtorEq, call_29, call_30, call_31, ld_2, ld_3, ld_27, fa_38_0, fa_38_1, fa_38_2, fa_38_3, fa_38_4, ld_38, bs_55_4_0_1_2_3, cv_2_78, cv_3_5, cv_27_78]
  refine Wp.bS (put_ok g5 n5 0 6 (by omega) (by simp [headC, putI_len]) 6 rfl fun v6 S6 g6 n6 x6 b6 => ?_)
  have l6 : Low S S6 := Low.ext l5 x6 (fun i hi => by have := d5 i hi; omega)
  have c6 := x6.c
  have d6 : ∀ j, j ∈ blkOf v6 → S.c + 1 ≤ j := fun j hj => (b6 j hj).elim (fun h => by first | exact d5 j h | (simp [blkOf] at h; omega)) (fun h => by omega)
  have hN := g.n; have hL : S.lock ≤ S.c := g.ok.1
  simp -implicitDefEqProofs (maxSteps := 1000000) (disch := (refine id ?_; first | ((first | fail); (first | (simp +arith only [new_c, new_lock, upd_c, upd_lock, relock_c, relock_lock]; done) | fail)) | ((fail_if_success (with_reducible apply isT_of)); (fail_if_success (first | fail)); first | (simp +arith only [new_c, new_lock, upd_c, upd_lock, relock_c, relock_lock]; done) | omega | (with_reducible refine Low.new ?_ _; (repeat (first | refine Low.upd ?_ (by (first | omega )) _)); done) | (with_reducible refine Low.upd ?_ (by (first | omega )) _; (repeat (first | refine Low.upd ?_ (by (first | omega )) _)); done) | (with_reducible refine Gd.new ?_ (by (simp only [objLt_row, objLt_dead, List.all_cons, List.all_nil, vlt1_int, vlt1_bool, vlt1_string, vlt1_nilp, vlt1_nils, vlt1_ptr, vlt1_sl, vlt1_func, vlt0_ptr, vlt0_sl, vlt0_int, vlt0_bool, vlt0_string, vlt0_nilp, vlt0_nils, vlt_int, vlt_bool, vlt_string, vlt_nilp, vlt_nils, vlt_ptr, vlt_sl, vlt_agg, vlt_func, List.toArray, Bool.and_true, Bool.true_and, Bool.and_self, Bool.and_eq_true, decide_eq_true_eq, and_true, true_and, new_c, upd_c, relock_c] <;> omega)); (repeat (first | refine Gd.upd ?_ (by (first | omega )) (by (simp only [objLt_row, objLt_dead, List.all_cons, List.all_nil, vlt1_int, vlt1_bool, vlt1_string, vlt1_nilp, vlt1_nils, vlt1_ptr, vlt1_sl, vlt1_func, vlt0_ptr, vlt0_sl, vlt0_int, vlt0_bool, vlt0_string, vlt0_nilp, vlt0_nils, vlt_int, vlt_bool, vlt_string, vlt_nilp, vlt_nils, vlt_ptr, vlt_sl, vlt_agg, vlt_func, List.toArray, Bool.and_true, Bool.true_and, Bool.and_self, Bool.and_eq_true, decide_eq_true_eq, and_true, true_and, new_c, upd_c, relock_c] <;> omega)) )); done) | (with_reducible refine Gd.upd ?_ (by (first | omega )) (by (simp only [objLt_row, objLt_dead, List.all_cons, List.all_nil, vlt1_int, vlt1_bool, vlt1_string, vlt1_nilp, vlt1_nils, vlt1_ptr, vlt1_sl, vlt1_func, vlt0_ptr, vlt0_sl, vlt0_int, vlt0_bool, vlt0_string, vlt0_nilp, vlt0_nils, vlt_int, vlt_bool, vlt_string, vlt_nilp, vlt_nils, vlt_ptr, vlt_sl, vlt_agg, vlt_func, List.toArray, Bool.and_true, Bool.true_and, Bool.and_self, Bool.and_eq_true, decide_eq_true_eq, and_true, true_and, new_c, upd_c, relock_c] <;> omega)); (repeat (first | refine Gd.upd ?_ (by (first | omega )) (by (simp only [objLt_row, objLt_dead, List.all_cons, List.all_nil, vlt1_int, vlt1_bool, vlt1_string, vlt1_nilp, vlt1_nils, vlt1_ptr, vlt1_sl, vlt1_func, vlt0_ptr, vlt0_sl, vlt0_int, vlt0_bool, vlt0_string, vlt0_nilp, vlt0_nils, vlt_int, vlt_bool, vlt_string, vlt_nilp, vlt_nils, vlt_ptr, vlt_sl, vlt_agg, vlt_func, List.toArray, Bool.and_true, Bool.true_and, Bool.and_self, Bool.and_eq_true, decide_eq_true_eq, and_true, true_and, new_c, upd_c, relock_c] <;> omega)) )); done) | (with_reducible refine Gd.relock2 ?_ ?_; rotate_left; simp only [new_c, upd_c, relock_c]; (repeat (first | refine Gd.upd ?_ (by (first | omega )) (by (simp only [objLt_row, objLt_dead, List.all_cons, List.all_nil, vlt1_int, vlt1_bool, vlt1_string, vlt1_nilp, vlt1_nils, vlt1_ptr, vlt1_sl, vlt1_func, vlt0_ptr, vlt0_sl, vlt0_int, vlt0_bool, vlt0_string, vlt0_nilp, vlt0_nils, vlt_int, vlt_bool, vlt_string, vlt_nilp, vlt_nils, vlt_ptr, vlt_sl, vlt_agg, vlt_func, List.toArray, Bool.and_true, Bool.true_and, Bool.and_self, Bool.and_eq_true, decide_eq_true_eq, and_true, true_and, new_c, upd_c, relock_c] <;> omega)) )); done) | (with_reducible refine nat_eq_id ?_; first | fail) | (with_reducible refine Rd.low (by with_reducible assumption) ?_; (repeat (first | refine Low.upd ?_ (by (first | omega )) _)); done) | ((first | fail); simp only [IsT, decide_eq_true_eq, Bool.and_eq_true, Bool.or_eq_true, Bool.not_eq_true', decide_eq_false_iff_not] at *; omega) | fail))) only [↓bindV_some, ↓bindS_some, ↓condB_false, bindV_some, bindS_some, wrapu8, wrapu64, ↓condK_B, un_not, box_agg, cell_at, cells_at, cellOf_row, cellsOf_row, nth_zero, nth_succ, aggOf_some, new_self, new_at, new_lo, new_c, or_false, or_self, Bool.not_true, Nat.zero_add, List.length_cons, List.length_nil, List.drop_zero, List.take_succ_cons, List.take_zero, not_false_eq_true, Nat.reduceAdd, Nat.reduceSub, Nat.reduceMul, Nat.reduceLeDiff, Nat.reduceLT, Nat.reduceEqDiff, Int.reduceLE, Int.reduceLT, Int.reduceAdd, Int.reduceNeg, Int.reduceEq, Int.reduceSub, Int.reduceMul, Int.reduceToNat, Bool.or_false, ↓reduceIte, Nat.le_refl, reduceCtorEq, call_29, call_30, call_31, ld_2, ld_3, ld_27, fa_38_0, fa_38_1, fa_38_2, fa_38_3, fa_38_4, ld_38, bs_55_4_0_1_2_3, cv_2_78, cv_3_5, cv_27_78]
  refine Wp.bS (sealed_ok g6 n6 (by simp [headC, putI_len]) (by simp [headC]) fun v7 S7 g7 n7 x7 b7 => ?_)
  have l7 : Low S S7 := Low.ext l6 x7 (fun i hi => by have := d6 i hi; omega)
  exact .ret ⟨v7, rfl, g7, l7, n7, fun j hj => by
    rcases b7 j hj with h | h
    · have := d6 j h; omega
    · omega⟩
end
end Go.Proofs.Yteofdikfdknpbaa.F
end
section
namespace Go.Proofs.Yteofdikfdknpbaa.F
open Go Go.Proofs.Yteofdikfdknpbaa.E
set_option linter.unusedVariables false
set_option linter.unusedSimpArgs false
structure Hd where
  y : Int
  cr : Nat
  fr : Int
abbrev hvl (h : Hd) : Value := .agg #[.int .i64 h.y, .int .u32 (h.cr : Int), .int .i64 h.fr]
def HT : Enc Hd := ⟨fun h => [.int .i64 h.y, .int .u32 (h.cr : Int), .int .i64 h.fr], 3, by omega, fun _ => rfl, fun _ => rfl⟩
structure Al where
  cyc : Int
  ex : Int
  ac : Int
  l : List Hd
structure Al.Ok (a : Al) : Prop where
  cyc : 1 ≤ a.cyc ∧ a.cyc ≤ 1073741824
  ex : 0 ≤ a.ex ∧ a.ex ≤ 4194304
  ac : 0 ≤ a.ac ∧ a.ac ≤ 4194304
  l : a.l.length ≤ 1000 ∧ ∀ h ∈ a.l, h.cr < 64
abbrev acs (a : Al) (fv : Value) : List Value := [.int .i64 a.cyc, .int .i64 a.ex, .int .i64 a.ac, fv]
structure AlAt (S : St) (a : Al) (b : Nat) (fv : Value) : Prop where
  row : S.heap b = .row (acs a fv) 0
  lk : S.lock ≤ b
  fr : Sl HT S fv a.l
  apart : b ∉ blkOf fv
def betterB (a b : Hd) : Bool := if pc a.cr = pc b.cr then decide (a.fr < b.fr) else decide (pc b.cr < pc a.cr)
def lateB (a : Al) (n x : Int) : Bool := decide (-a.ac ≤ x - n * a.cyc - a.ex ∧ x - n * a.cyc - a.ex ≤ a.ac)
theorem quo_pos {p : Program} (t : TypeId) (x y : Int) (h0 : 0 ≤ x) (h1 : x < 4611686018427387904) (hy : 0 < y) : aBin p .quo t (.int .i64 x) (.int .i64 y) = some (.int .i64 (x / y)) := by
  rw [bin_quo _ _ _ _ (by omega), Int.tdiv_eq_ediv_of_nonneg h0]
  have a := Int.ediv_nonneg h0 (Int.le_of_lt hy)
  have b := Int.ediv_le_self y h0
  rw [wrap64 (by omega) (by omega)]
section
variable {W : World} {S : St}
theorem AlAt.keep {S' : St} {a : Al} {b : Nat} {fv : Value} {D : List Nat} (h : AlAt S a b fv) (g : Gd W S) (e : Ext D S S') (hb : b ∉ D) (hd : ∀ i, i ∈ blkOf fv → i ∉ D) : AlAt S' a b fv :=
  ⟨(e.same b (row_lt g.ok h.row) hb).trans h.row, by rw [e.lock]; exact h.lk, h.fr.keep e hd g.ok, h.apart⟩
theorem Low.toExt {S S' : St} (h : Low S S') (g : Gd W S') : Ext [] S S' := ⟨h.2.1, h.1, fun i hi _ => h.2.2 i hi, g.ok, fun _ => g.cl⟩
theorem New_bad (g : Gd W S) (c : Cfg) (q : Pl) (h : CfgAt W S c q) (hz : checkN c ≠ 0) : cw W 8 #[cvl c q] S = some (.tuple #[.pointer none, i64 1], S.new (.row (ccs c q) 0)) := by
  have g1 := g.new (o := .row (ccs c q) 0) (objLt_mono (Nat.le_succ _) (cvl_obj h.vlt))
  have e := Check_eq g1 c q (h.low (Low.new (Low.rfl' S) _))
  rw [eq8]
  have hN := g.n; have hL : S.lock ≤ S.c := g.ok.1
  simp -implicitDefEqProofs (maxSteps := 1000000) (disch := (refine id ?_; first | ((first | fail); (first | fail)) | ((fail_if_success (with_reducible apply isT_of)); (fail_if_success (first | fail)); first | omega | (with_reducible refine Low.new ?_ _; (repeat (first | refine Low.upd ?_ (by (first | omega )) _)); done) | (with_reducible refine Low.upd ?_ (by (first | omega )) _; (repeat (first | refine Low.upd ?_ (by (first | omega )) _)); done) | (with_reducible refine Gd.new ?_ (by (simp only [objLt_row, objLt_dead, List.all_cons, List.all_nil, vlt1_int, vlt1_bool, vlt1_string, vlt1_nilp, vlt1_nils, vlt1_ptr, vlt1_sl, vlt1_func, vlt0_ptr, vlt0_sl, vlt0_int, vlt0_bool, vlt0_string, vlt0_nilp, vlt0_nils, vlt_int, vlt_bool, vlt_string, vlt_nilp, vlt_nils, vlt_ptr, vlt_sl, vlt_agg, vlt_func, List.toArray, Bool.and_true, Bool.true_and, Bool.and_self, Bool.and_eq_true, decide_eq_true_eq, and_true, true_and, new_c, upd_c, relock_c] <;> omega)); (repeat (first | refine Gd.upd ?_ (by (first | omega )) (by (simp only [objLt_row, objLt_dead, List.all_cons, List.all_nil, vlt1_int, vlt1_bool, vlt1_string, vlt1_nilp, vlt1_nils, vlt1_ptr, vlt1_sl, vlt1_func, vlt0_ptr, vlt0_sl, vlt0_int, vlt0_bool, vlt0_string, vlt0_nilp, vlt0_nils, vlt_int, vlt_bool, vlt_string, vlt_nilp, vlt_nils, vlt_ptr, vlt_sl, vlt_agg, vlt_func, List.toArray, Bool.and_true, Bool.true_and, Bool.and_self, Bool.and_eq_true, decide_eq_true_eq, and_true, true_and, new_c, upd_c, relock_c] <;> omega)) )); done) | (with_reducible refine Gd.upd ?_ (by (first | omega )) (by (simp only [objLt_row, objLt_dead, List.all_cons, List.all_nil, vlt1_int, vlt1_bool, vlt1_string, vlt1_nilp, vlt1_nils, vlt1_ptr, vlt1_sl, vlt1_func, vlt0_ptr, vlt0_sl, vlt0_int, vlt0_bool, vlt0_string, vlt0_nilp, vlt0_nils, vlt_int, vlt_bool, vlt_string, vlt_nilp, vlt_nils, vlt_ptr, vlt_sl, vlt_agg, vlt_func, List.toArray, Bool.and_true, Bool.true_and, Bool.and_self, Bool.and_eq_true, decide_eq_true_eq, and_true, true_and, new_c, upd_c, relock_c] <;> omega)); (repeat (first | refine Gd.upd ?_ (by (first | omega )) (by (simp only [objLt_row, objLt_dead, List.all_cons, List.all_nil, vlt1_int, vlt1_bool, vlt1_string, vlt1_nilp, vlt1_nils, vlt1_ptr, vlt1_sl, vlt1_func, vlt0_ptr, vlt0_sl, vlt0_int, vlt0_bool, vlt0_string, vlt0_nilp, vlt0_nils, vlt_int, vlt_bool, vlt_string, vlt_nilp, vlt_nils, vlt_ptr, vlt_sl, vlt_agg, vlt_func, List.toArray, Bool.and_true, Bool.true_and, Bool.and_self, Bool.and_eq_true, decide_eq_true_eq, and_true, true_and, new_c, upd_c, relock_c] <;> omega)) )); done) | (with_reducible refine Gd.relock2 ?_ ?_; rotate_left; simp only [new_c, upd_c, relock_c]; (repeat (first | refine Gd.upd ?_ (by (first | omega )) (by (simp only [objLt_row, objLt_dead, List.all_cons, List.all_nil, vlt1_int, vlt1_bool, vlt1_string, vlt1_nilp, vlt1_nils, vlt1_ptr, vlt1_sl, vlt1_func, vlt0_ptr, vlt0_sl, vlt0_int, vlt0_bool, vlt0_string, vlt0_nilp, vlt0_nils, vlt_int, vlt_bool, vlt_string, vlt_nilp, vlt_nils, vlt_ptr, vlt_sl, vlt_agg, vlt_func, List.toArray, Bool.and_true, Bool.true_and, Bool.and_self, Bool.and_eq_true, decide_eq_true_eq, and_true, true_and, new_c, upd_c, relock_c] <;> omega)) )); done) | (with_reducible refine nat_eq_id ?_; first | fail) | (with_reducible refine Rd.low (by with_reducible assumption) ?_; (repeat (first | refine Low.upd ?_ (by (first | omega )) _)); done) | ((first | fail); simp only [IsT, decide_eq_true_eq, Bool.and_eq_true, Bool.or_eq_true, Bool.not_eq_true', decide_eq_false_iff_not] at *; omega) | fail))) only [e, hz, ↓bindV_some, ↓bindS_some, ↓condB_true, bindV_some, bindS_some, ↓condK_B, bin_add, bin_mul, bin_neq, box_agg, cell_at, cells_at, cellOf_row, cellsOf_row, nth_zero, nth_succ, aggOf_some, eq_self, new_at, new_c, decide_false, Bool.not_false, Nat.zero_add, List.length_cons, List.length_nil, List.drop_zero, List.take_succ_cons, List.take_zero, Nat.reduceAdd, Nat.reduceSub, Nat.reduceMul, Nat.reduceLeDiff, Nat.reduceLT, Nat.reduceEqDiff, Int.reduceLE, Int.reduceLT, Int.reduceAdd, Int.reduceNeg, Int.reduceEq, Int.reduceSub, Int.reduceMul, Int.reduceToNat, ↓reduceIte, Nat.le_refl, reduceCtorEq, call_16, ld_2, fa_26_1, fa_26_2, fa_26_3, fa_26_4, ld_26, bu_54_0_1_2]
theorem spans_rng {c : Cfg} (h : c.spans = true) : (1 ≤ c.cycle ∧ c.cycle ≤ 1073741824) ∧ (0 ≤ c.delay ∧ c.delay ≤ 1048576) ∧ (0 ≤ c.window ∧ c.window ≤ 1048576) ∧ (0 ≤ c.prec ∧ c.prec ≤ 1048576) := by
  unfold Cfg.spans inB at h
  simp only [Bool.and_eq_true, decide_eq_true_eq] at h
  exact ⟨h.1.1.1, h.1.1.2, h.1.2, h.2⟩
theorem check_spans {c : Cfg} (h : checkN c = 0) : c.spans = true := by
  unfold checkN at h
  split at h
  · omega
  split at h
  · omega
  split at h
  · omega
  rename_i h1 h2 h3
  simpa using h3
abbrev alC (c : Cfg) : Al := ⟨c.cycle, 2 * c.delay + c.window, c.window + 2 * c.prec, []⟩
theorem alC_ok {c : Cfg} (h : checkN c = 0) : (alC c).Ok := by
  obtain ⟨h1, h2, h3, h4⟩ := spans_rng (check_spans h)
  exact ⟨h1, ⟨by show 0 ≤ 2 * c.delay + c.window; omega, by show 2 * c.delay + c.window ≤ 4194304; omega⟩, ⟨by show 0 ≤ c.window + 2 * c.prec; omega, by show c.window + 2 * c.prec ≤ 4194304; omega⟩, by simp, by simp⟩
theorem New_good (g : Gd W S) (c : Cfg) (q : Pl) (h : CfgAt W S c q) (hz : checkN c = 0) : Wp (cw W 8 #[cvl c q] S) fun r => ∃ b, r.1 = .tuple #[.pointer (some ⟨b, 0, none⟩), i64 0] ∧ Gd W r.2 ∧ Low S r.2 ∧ S.c ≤ b ∧ b < r.2.c ∧ AlAt r.2 (alC c) b (.slice none 0 0) := by
  obtain ⟨h1, h2, h3, h4⟩ := spans_rng (check_spans hz)
  have g1 := g.new (o := .row (ccs c q) 0) (objLt_mono (Nat.le_succ _) (cvl_obj h.vlt))
  have e := Check_eq g1 c q (h.low (Low.new (Low.rfl' S) _))
  rw [hz] at e
  have w1 := wrap64 (x := 2 * c.delay) (by omega) (by omega)
  have w2 := wrap64 (x := 2 * c.delay + c.window) (by omega) (by omega)
  have w3 := wrap64 (x := 2 * c.prec) (by omega) (by omega)
  have w4 := wrap64 (x := c.window + 2 * c.prec) (by omega) (by omega)
  rw [eq8]
  have hN := g.n; have hL : S.lock ≤ S.c := g.ok.1
  simp -implicitDefEqProofs (maxSteps := 1000000) (disch := (refine id ?_; first | ((first | fail); (first | fail)) | ((fail_if_success (with_reducible apply isT_of)); (fail_if_success (first | fail)); first | omega | (with_reducible refine Low.new ?_ _; (repeat (first | refine Low.upd ?_ (by (first | omega )) _)); done) | (with_reducible refine Low.upd ?_ (by (first | omega )) _; (repeat (first | refine Low.upd ?_ (by (first | omega )) _)); done) | (with_reducible refine Gd.new ?_ (by (simp only [objLt_row, objLt_dead, List.all_cons, List.all_nil, vlt1_int, vlt1_bool, vlt1_string, vlt1_nilp, vlt1_nils, vlt1_ptr, vlt1_sl, vlt1_func, vlt0_ptr, vlt0_sl, vlt0_int, vlt0_bool, vlt0_string, vlt0_nilp, vlt0_nils, vlt_int, vlt_bool, vlt_string, vlt_nilp, vlt_nils, vlt_ptr, vlt_sl, vlt_agg, vlt_func, List.toArray, Bool.and_true, Bool.true_and, Bool.and_self, Bool.and_eq_true, decide_eq_true_eq, and_true, true_and, new_c, upd_c, relock_c] <;> omega)); (repeat (first | refine Gd.upd ?_ (by (first | omega )) (by (simp only [objLt_row, objLt_dead, List.all_cons, List.all_nil, vlt1_int, vlt1_bool, vlt1_string, vlt1_nilp, vlt1_nils, vlt1_ptr, vlt1_sl, vlt1_func, vlt0_ptr, vlt0_sl, vlt0_int, vlt0_bool, vlt0_string, vlt0_nilp, vlt0_nils, vlt_int, vlt_bool, vlt_string, vlt_nilp, vlt_nils, vlt_ptr, vlt_sl, vlt_agg, vlt_func, List.toArray, Bool.and_true, Bool.true_and, Bool.and_self, Bool.and_eq_true, decide_eq_true_eq, and_true, true_and, new_c, upd_c, relock_c] <;> omega)) )); done) | (with_reducible refine Gd.upd ?_ (by (first | omega )) (by (simp only [objLt_row, objLt_dead, List.all_cons, List.all_nil, vlt1_int, vlt1_bool, vlt1_string, vlt1_nilp, vlt1_nils, vlt1_ptr, vlt1_sl, vlt1_func, vlt0_ptr, vlt0_sl, vlt0_int, vlt0_bool, vlt0_string, vlt0_nilp, vlt0_nils, vlt_int, vlt_bool, vlt_string, vlt_nilp, vlt_nils, vlt_ptr, vlt_sl, vlt_agg, vlt_func, List.toArray, Bool.and_true, Bool.true_and, Bool.and_self, Bool.and_eq_true, decide_eq_true_eq, and_true, true_and, new_c, upd_c, relock_c] <;> omega)); (repeat (first | refine Gd.upd ?_ (by (first | omega )) (by (simp only [objLt_row, objLt_dead, List.all_cons, List.all_nil, vlt1_int, vlt1_bool, vlt1_string, vlt1_nilp, vlt1_nils, vlt1_ptr, vlt1_sl, vlt1_func, vlt0_ptr, vlt0_sl, vlt0_int, vlt0_bool, vlt0_string, vlt0_nilp, vlt0_nils, vlt_int, vlt_bool, vlt_string, vlt_nilp, vlt_nils, vlt_ptr, vlt_sl, vlt_agg, vlt_func, List.toArray, Bool.and_true, Bool.true_and, Bool.and_self, Bool.and_eq_true, decide_eq_true_eq, and_true, true_and, new_c, upd_c, relock_c] <;> omega)) )); done) | (with_reducible refine Gd.relock2 ?_ ?_; rotate_left; simp only [new_c, upd_c, relock_c]; (repeat (first | refine Gd.upd ?_ (by (first | omega )) (by (simp only [objLt_row, objLt_dead, List.all_cons, List.all_nil, vlt1_int, vlt1_bool, vlt1_string, vlt1_nilp, vlt1_nils, vlt1_ptr, vlt1_sl, vlt1_func, vlt0_ptr, vlt0_sl, vlt0_int, vlt0_bool, vlt0_string, vlt0_nilp, vlt0_nils, vlt_int, vlt_bool, vlt_string, vlt_nilp, vlt_nils, vlt_ptr, vlt_sl, vlt_agg, vlt_func, List.toArray, Bool.and_true, Bool.true_and, Bool.and_self, Bool.and_eq_true, decide_eq_true_eq, and_true, true_and, new_c, upd_c, relock_c] <;> omega)) )); done) | (with_reducible refine nat_eq_id ?_; first | fail) | (with_reducible refine Rd.low (by with_reducible assumption) ?_; (repeat (first | refine Low.upd ?_ (by (first | omega )) _)); done) | ((first | fail); simp only [IsT, decide_eq_true_eq, Bool.and_eq_true, Bool.or_eq_true, Bool.not_eq_true', decide_eq_false_iff_not] at *; omega) | fail))) only [e, w1, w2, w3, w4, ↓bindV_some, ↓bindS_some, ↓condB_false, bindV_some, bindS_some, wrap64, ↓condK_B, bin_add, bin_mul, bin_neq, box_agg, cell_at, cells_at, cellOf_row, cellsOf_row, nth_zero, nth_succ, aggOf_some, new_self, eq_self, new_at, new_c, decide_true, Bool.not_true, Nat.zero_add, List.length_cons, List.length_nil, List.drop_zero, List.take_succ_cons, List.take_zero, not_false_eq_true, Nat.reduceAdd, Nat.reduceSub, Nat.reduceMul, Nat.reduceLeDiff, Nat.reduceLT, Nat.reduceEqDiff, Int.reduceLE, Int.reduceLT, Int.reduceAdd, Int.reduceNeg, Int.reduceEq, Int.reduceSub, Int.reduceMul, Int.reduceToNat, ↓reduceIte, Nat.le_refl, reduceCtorEq, call_16, ld_2, fa_26_1, fa_26_2, fa_26_3, fa_26_4, ld_26, bu_54_0_1_2]
  refine .ret ⟨S.c + 1, rfl, ?_, ?_, ?_, ?_, ?_, ?_, ?_, ?_⟩
  · exact g1.new rfl
  · exact ((Low.rfl' S).new _).new _
  · exact Nat.le_succ _
  · show S.c + 1 < S.c + 1 + 1; omega
  · exact new_self _
  · show S.lock ≤ S.c + 1; omega
  · exact sl_nil
  · simp [blkOf]
theorem Expected_at (g : Gd W S) {a : Al} (ok : a.Ok) {b : Nat} {fv : Value} (hb : S.heap b = .row (acs a fv) 0) (hW : W.heap.size ≤ b) (n : Int) (hn : 0 ≤ n ∧ n ≤ 1048576) : cw W 9 #[.pointer (some ⟨b, 0, none⟩), i64 n] S = some (i64 (n * a.cyc + a.ex), S) := by
  have hlt := row_lt g.ok hb
  have ha : [Value.pointer (some ⟨b, 0, none⟩), i64 n].all (vlt S.c) = true := by simp [hlt]
  obtain ⟨c1, c2⟩ := ok.cyc
  obtain ⟨x1, x2⟩ := ok.ex
  have hq := quo_pos (p := p) 2 1125899906842624 a.cyc (by omega) (by omega) (by omega)
  have hq1 : ¬ (1125899906842624 / a.cyc < n) := by
    have : (1048576 : Int) ≤ 1125899906842624 / a.cyc := (Int.le_ediv_iff_mul_le (by omega)).2 (by omega)
    omega
  have hn0 : ¬ n < 0 := by omega
  have m0 : 0 ≤ n * a.cyc := Int.mul_nonneg hn.1 (by omega)
  have m1 : n * a.cyc ≤ 1048576 * 1073741824 := Int.mul_le_mul hn.2 c2 (by omega) (by omega)
  have w1 := wrap64 (x := n * a.cyc) (by omega) (by omega)
  have w2 := wrap64 (x := n * a.cyc + a.ex) (by omega) (by omega)
  rw [eq9]
  have hN := g.n; have hL : S.lock ≤ S.c := g.ok.1
  simp -implicitDefEqProofs (maxSteps := 1000000) (disch := (refine id ?_; first | ((fail_if_success (with_reducible apply isT_of)); (fail_if_success (first | fail)); first | omega | (with_reducible apply Gd.cl; with_reducible assumption) | with_reducible exact Low.rfl' _ | (simp only [flatR_int, flatR_bool, flatR_string, flatR_tuple, flatR_agg, flat_int, flat_bool, flat_string, flat_agg, flat0_int, flat0_bool, flat0_string, List.all_cons, List.all_nil, Bool.and_self, Bool.and_true, Bool.true_and]; done) | fail))) only [hb, hq, hq1, hn0, w1, w2, ha, gcR_some, ↓bindV_some, ↓condB_false, wV_true, bindV_some, ↓gV_f, wrap64, ↓condK_B, wV_pos, wO_val, pick_bool, bin_add, bin_mul, bin_lss, bin_gtr, nil_ptr, cell_at, cellOf_row, nth_zero, nth_succ, eq_self, decide_true, decide_false, and_self, Bool.not_false, Nat.zero_add, Bool.and_self, Nat.reduceAdd, Nat.reduceSub, Nat.reduceMul, Nat.reduceLeDiff, Nat.reduceLT, Nat.reduceEqDiff, Int.reduceLE, Int.reduceLT, Int.reduceAdd, Int.reduceNeg, Int.reduceEq, Int.reduceSub, Int.reduceMul, Int.reduceToNat, ↓reduceIte, Option.isNone_some, reduceCtorEq, ld_2, beql_29, fa_54_0, fa_54_1]
theorem Expected_eq (g : Gd W S) {a : Al} (ok : a.Ok) {b : Nat} {fv : Value} (h : AlAt S a b fv) (n : Int) (hn : 0 ≤ n ∧ n ≤ 1048576) : cw W 9 #[.pointer (some ⟨b, 0, none⟩), i64 n] S = some (i64 (n * a.cyc + a.ex), S) :=
  Expected_at g ok h.row (Nat.le_trans g.lock h.lk) n hn
theorem Accept_eq (g : Gd W S) {a : Al} {b : Nat} {fv : Value} (h : AlAt S a b fv) : cw W 11 #[.pointer (some ⟨b, 0, none⟩)] S = some (i64 a.ac, S) := by
  have hW : W.heap.size ≤ b := Nat.le_trans g.lock h.lk
  have hb := h.row
  have hlt := row_lt g.ok hb
  have ha : [Value.pointer (some ⟨b, 0, none⟩)].all (vlt S.c) = true := by simp [hlt]
  rw [eq11]
  have hN := g.n; have hL : S.lock ≤ S.c := g.ok.1
  simp -implicitDefEqProofs (maxSteps := 1000000) (disch := (refine id ?_; first | ((fail_if_success (with_reducible apply isT_of)); (fail_if_success (first | fail)); first | omega | (with_reducible apply Gd.cl; with_reducible assumption) | with_reducible exact Low.rfl' _ | (simp only [flatR_int, flatR_bool, flatR_string, flatR_tuple, flatR_agg, flat_int, flat_bool, flat_string, flat_agg, flat0_int, flat0_bool, flat0_string, List.all_cons, List.all_nil, Bool.and_self, Bool.and_true, Bool.true_and]; done) | fail))) only [hb, ha, gcR_some, ↓bindV_some, ↓condB_false, bindV_some, ↓condK_B, nil_ptr, cell_at, cellOf_row, nth_zero, nth_succ, eq_self, decide_true, and_self, Nat.zero_add, Bool.and_self, Nat.reduceAdd, Nat.reduceSub, Nat.reduceMul, Nat.reduceLeDiff, Nat.reduceLT, Nat.reduceEqDiff, Int.reduceLE, Int.reduceLT, Int.reduceAdd, Int.reduceNeg, Int.reduceEq, Int.reduceSub, Int.reduceMul, Int.reduceToNat, ↓reduceIte, Option.isNone_some, reduceCtorEq, ld_2, beql_29, fa_54_2]
theorem late_good (g : Gd W S) {a : Al} (ok : a.Ok) {b : Nat} {fv : Value} (h : AlAt S a b fv) (n x : Int) (hn : 0 ≤ n ∧ n ≤ 1125899906842624) (hx : 0 ≤ x ∧ x ≤ 1125899906842624) (hl : lateB a n x = true) : cw W 19 #[.pointer (some ⟨b, 0, none⟩), i64 n, i64 x] S = some (.tuple #[i64 (x - n * a.cyc - a.ex), .bool true], S) := by
  have hW : W.heap.size ≤ b := Nat.le_trans g.lock h.lk
  have hb := h.row
  have hlt := row_lt g.ok hb
  have ha : [Value.pointer (some ⟨b, 0, none⟩), i64 n, i64 x].all (vlt S.c) = true := by simp [hlt]
  obtain ⟨c1, c2⟩ := ok.cyc
  obtain ⟨x1, x2⟩ := ok.ex
  obtain ⟨a1, a2⟩ := ok.ac
  have hl' : -a.ac ≤ x - n * a.cyc - a.ex ∧ x - n * a.cyc - a.ex ≤ a.ac := of_decide_eq_true hl
  have m0 : 0 ≤ n * a.cyc := Int.mul_nonneg hn.1 (by omega)
  have hq := quo_pos (p := p) 2 (x + a.ac) a.cyc (by omega) (by omega) (by omega)
  have hq1 : ¬ ((x + a.ac) / a.cyc < n) := by
    have : n ≤ (x + a.ac) / a.cyc := (Int.le_ediv_iff_mul_le (by omega)).2 (by omega)
    omega
  have w0 := wrap64 (x := x + a.ac) (by omega) (by omega)
  have w1 := wrap64 (x := n * a.cyc) (by omega) (by omega)
  have w2 := wrap64 (x := x - n * a.cyc) (by omega) (by omega)
  have w3 := wrap64 (x := x - n * a.cyc - a.ex) (by omega) (by omega)
  have w4 : IntKind.i64.wrap (0 - a.ac) = -a.ac := by rw [wrap64 (by omega) (by omega)]; omega
  have k1 := hl'.1
  have k2 := hl'.2
  rw [eq19]
  have hN := g.n; have hL : S.lock ≤ S.c := g.ok.1
  simp -implicitDefEqProofs (maxSteps := 1000000) (disch := (refine id ?_; first | ((fail_if_success (with_reducible apply isT_of)); (fail_if_success (first | fail)); first | omega | (with_reducible apply Gd.cl; with_reducible assumption) | with_reducible exact Low.rfl' _ | (simp only [flatR_int, flatR_bool, flatR_string, flatR_tuple, flatR_agg, flat_int, flat_bool, flat_string, flat_agg, flat0_int, flat0_bool, flat0_string, List.all_cons, List.all_nil, Bool.and_self, Bool.and_true, Bool.true_and]; done) | fail))) only [hb, hq, hq1, w0, w1, w2, w3, w4, k1, k2, ha, gcR_some, flatR_tuple, ↓bindV_some, ↓condB_false, wV_true, ↓wO_true, bindV_some, ↓gV_t, wrap64, ↓condK_B, wO_true, pick_bool, bin_add, bin_sub, bin_mul, bin_leq, bin_gtr, bin_geq, un_neg, nil_ptr, cell_at, cellOf_row, nth_zero, nth_succ, eq_self, decide_true, decide_false, and_self, Nat.zero_add, Bool.and_self, Nat.reduceAdd, Nat.reduceSub, Nat.reduceMul, Nat.reduceLeDiff, Nat.reduceLT, Nat.reduceEqDiff, Int.reduceLE, Int.reduceLT, Int.reduceAdd, Int.reduceNeg, Int.reduceEq, Int.reduceSub, Int.reduceMul, Int.reduceToNat, ↓reduceIte, reduceCtorEq, ld_2, fa_54_0, fa_54_1, fa_54_2]
theorem late_bad (g : Gd W S) {a : Al} (ok : a.Ok) {b : Nat} {fv : Value} (h : AlAt S a b fv) (n x : Int) (hn : 0 ≤ n ∧ n ≤ 1125899906842624) (hx : 0 ≤ x ∧ x ≤ 1125899906842624) (hl : lateB a n x = false) : ∃ e, cw W 19 #[.pointer (some ⟨b, 0, none⟩), i64 n, i64 x] S = some (.tuple #[i64 e, .bool false], S) := by
  have hW : W.heap.size ≤ b := Nat.le_trans g.lock h.lk
  have hb := h.row
  have hlt := row_lt g.ok hb
  have ha : [Value.pointer (some ⟨b, 0, none⟩), i64 n, i64 x].all (vlt S.c) = true := by simp [hlt]
  obtain ⟨c1, c2⟩ := ok.cyc
  obtain ⟨x1, x2⟩ := ok.ex
  obtain ⟨a1, a2⟩ := ok.ac
  have hl' : ¬ (-a.ac ≤ x - n * a.cyc - a.ex ∧ x - n * a.cyc - a.ex ≤ a.ac) := of_decide_eq_false hl
  have m0 : 0 ≤ n * a.cyc := Int.mul_nonneg hn.1 (by omega)
  have hq := quo_pos (p := p) 2 (x + a.ac) a.cyc (by omega) (by omega) (by omega)
  have w0 := wrap64 (x := x + a.ac) (by omega) (by omega)
  by_cases hq1 : (x + a.ac) / a.cyc < n
  · refine ⟨0, ?_⟩
    rw [eq19]
    have hN := g.n; have hL : S.lock ≤ S.c := g.ok.1
    simp -implicitDefEqProofs (maxSteps := 1000000) (disch := (refine id ?_; first | ((fail_if_success (with_reducible apply isT_of)); (fail_if_success (first | fail)); first | omega | (with_reducible apply Gd.cl; with_reducible assumption) | with_reducible exact Low.rfl' _ | (simp only [flatR_int, flatR_bool, flatR_string, flatR_tuple, flatR_agg, flat_int, flat_bool, flat_string, flat_agg, flat0_int, flat0_bool, flat0_string, List.all_cons, List.all_nil, Bool.and_self, Bool.and_true, Bool.true_and]; done) | fail))) only [hb, hq, hq1, w0, ha, gcR_some, flatR_tuple, ↓bindV_some, ↓condB_true, ↓condB_false, wV_true, ↓wO_true, ↓wO_false, bindV_some, ↓gV_t, wrap64, ↓condK_B, wO_true, wO_false, wV_pos, wO_val, pick_and, pick_bool, bin_add, bin_sub, bin_mul, bin_leq, bin_gtr, bin_geq, un_neg, pick_false, nil_ptr, cell_at, cellOf_row, nth_zero, nth_succ, eq_self, decide_true, decide_false, and_self, Nat.zero_add, Bool.and_self, Nat.reduceAdd, Nat.reduceSub, Nat.reduceMul, Nat.reduceLeDiff, Nat.reduceLT, Nat.reduceEqDiff, Int.reduceLE, Int.reduceLT, Int.reduceAdd, Int.reduceNeg, Int.reduceEq, Int.reduceSub, Int.reduceMul, Int.reduceToNat, ↓reduceIte, reduceCtorEq, ld_2, fa_54_0, fa_54_1, fa_54_2]
  · have hq2 : n * a.cyc ≤ x + a.ac := (Int.le_ediv_iff_mul_le (by omega)).1 (by omega)
    have w1 := wrap64 (x := n * a.cyc) (by omega) (by omega)
    have w2 := wrap64 (x := x - n * a.cyc) (by omega) (by omega)
    have w3 := wrap64 (x := x - n * a.cyc - a.ex) (by omega) (by omega)
    have w4 : IntKind.i64.wrap (0 - a.ac) = -a.ac := by rw [wrap64 (by omega) (by omega)]; omega
    refine ⟨x - n * a.cyc - a.ex, ?_⟩
    rw [eq19]
    have hN := g.n; have hL : S.lock ≤ S.c := g.ok.1
    by_cases k1 : -a.ac ≤ x - n * a.cyc - a.ex
    · have k2 : ¬ (x - n * a.cyc - a.ex ≤ a.ac) := fun k2 => hl' ⟨k1, k2⟩
      simp -implicitDefEqProofs (maxSteps := 1000000) (disch := (refine id ?_; first | ((fail_if_success (with_reducible apply isT_of)); (fail_if_success (first | fail)); first | omega | (with_reducible apply Gd.cl; with_reducible assumption) | with_reducible exact Low.rfl' _ | (simp only [flatR_int, flatR_bool, flatR_string, flatR_tuple, flatR_agg, flat_int, flat_bool, flat_string, flat_agg, flat0_int, flat0_bool, flat0_string, List.all_cons, List.all_nil, Bool.and_self, Bool.and_true, Bool.true_and]; done) | fail))) only [hb, hq, hq1, w0, w1, w2, w3, w4, k1, k2, ha, gcR_some, flatR_tuple, ↓bindV_some, ↓condB_true, ↓condB_false, wV_true, ↓wO_true, ↓wO_false, bindV_some, ↓gV_t, wrap64, ↓condK_B, wO_true, wO_false, wV_pos, wO_val, pick_and, pick_bool, bin_add, bin_sub, bin_mul, bin_leq, bin_gtr, bin_geq, un_neg, pick_false, nil_ptr, cell_at, cellOf_row, nth_zero, nth_succ, eq_self, decide_true, decide_false, and_self, Nat.zero_add, Bool.and_self, Nat.reduceAdd, Nat.reduceSub, Nat.reduceMul, Nat.reduceLeDiff, Nat.reduceLT, Nat.reduceEqDiff, Int.reduceLE, Int.reduceLT, Int.reduceAdd, Int.reduceNeg, Int.reduceEq, Int.reduceSub, Int.reduceMul, Int.reduceToNat, ↓reduceIte, reduceCtorEq, ld_2, fa_54_0, fa_54_1, fa_54_2]
    · simp -implicitDefEqProofs (maxSteps := 1000000) (disch := (refine id ?_; first | ((fail_if_success (with_reducible apply isT_of)); (fail_if_success (first | fail)); first | omega | (with_reducible apply Gd.cl; with_reducible assumption) | with_reducible exact Low.rfl' _ | (simp only [flatR_int, flatR_bool, flatR_string, flatR_tuple, flatR_agg, flat_int, flat_bool, flat_string, flat_agg, flat0_int, flat0_bool, flat0_string, List.all_cons, List.all_nil, Bool.and_self, Bool.and_true, Bool.true_and]; done) | fail))) only [hb, hq, hq1, w0, w1, w2, w3, w4, k1, ha, gcR_some, flatR_tuple, ↓bindV_some, ↓condB_true, ↓condB_false, wV_true, ↓wO_true, ↓wO_false, bindV_some, ↓gV_t, wrap64, ↓condK_B, wO_true, wO_false, wV_pos, wO_val, pick_and, pick_bool, bin_add, bin_sub, bin_mul, bin_leq, bin_gtr, bin_geq, un_neg, pick_false, nil_ptr, cell_at, cellOf_row, nth_zero, nth_succ, eq_self, decide_true, decide_false, and_self, Nat.zero_add, Bool.and_self, Nat.reduceAdd, Nat.reduceSub, Nat.reduceMul, Nat.reduceLeDiff, Nat.reduceLT, Nat.reduceEqDiff, Int.reduceLE, Int.reduceLT, Int.reduceAdd, Int.reduceNeg, Int.reduceEq, Int.reduceSub, Int.reduceMul, Int.reduceToNat, ↓reduceIte, reduceCtorEq, ld_2, fa_54_0, fa_54_1, fa_54_2]
theorem better_eq (g : Gd W S) (a b : Hd) (h1 : a.cr < 64) (h2 : b.cr < 64) : cw W 20 #[hvl a, hvl b] S = some (.bool (betterB a b), S) := by
  have g1 : Gd W (S.new (.row [.int .i64 a.y, .int .u32 (a.cr : Int), .int .i64 a.fr] 0)) := g.new rfl
  have g2 : Gd W ((S.new (.row [.int .i64 a.y, .int .u32 (a.cr : Int), .int .i64 a.fr] 0)).new (.row [.int .i64 b.y, .int .u32 (b.cr : Int), .int .i64 b.fr] 0)) := g1.new rfl
  have e1 := count_eq g2.relock a.cr h1
  simp only [new_c] at e1
  have e2 := count_eq g2 b.cr h2
  have ha : [hvl a, hvl b].all (vlt S.c) = true := by simp only [List.all_cons, List.all_nil, vlt_agg, vlt1_int, Bool.and_self]
  unfold betterB
  rw [eq20]
  have hN := g.n; have hL : S.lock ≤ S.c := g.ok.1
  by_cases hp : pc a.cr = pc b.cr
  · rw [if_pos hp]
    rw [hp] at e1
    simp -implicitDefEqProofs (maxSteps := 1000000) (disch := (refine id ?_; first | ((first | fail); (first | (simp +arith only [new_c, new_lock, upd_c, upd_lock, relock_c, relock_lock]; done) | (refine Nat.le_trans hN ?_; simp +arith only [new_c, new_lock, upd_c, upd_lock, relock_c, relock_lock]; done) | fail)) | ((fail_if_success (with_reducible apply isT_of)); (fail_if_success (first | fail)); first | (simp +arith only [new_c, new_lock, upd_c, upd_lock, relock_c, relock_lock]; done) | (refine Nat.le_trans hN ?_; simp +arith only [new_c, new_lock, upd_c, upd_lock, relock_c, relock_lock]; done) | omega | (with_reducible apply Gd.cl; with_reducible assumption) | with_reducible exact Low.rfl' _ | (with_reducible refine Low.new ?_ _; (repeat (first | with_reducible exact Low.rfl' _ | refine Low.new ?_ _ )); done) | (simp only [flatR_int, flatR_bool, flatR_string, flatR_tuple, flatR_agg, flat_int, flat_bool, flat_string, flat_agg, flat0_int, flat0_bool, flat0_string, List.all_cons, List.all_nil, Bool.and_self, Bool.and_true, Bool.true_and]; done) | fail))) only [e1, e2, ha, gcR_some, ↓bindV_some, ↓bindS_some, ↓condB_true, ↓condB_false, bindV_some, bindS_some, ↓condK_B, bin_lss, bin_gtr, bin_neq, box_agg, cell_at, cellOf_row, nth_zero, nth_succ, eq_self, new_at, new_lo, new_c, new_lock, relock2, relock_id, qS_true, unlock_some, decide_true, decide_false, and_self, Bool.not_true, Bool.not_false, Nat.zero_add, Bool.and_self, Nat.reduceAdd, Nat.reduceSub, Nat.reduceMul, Nat.reduceLeDiff, Nat.reduceLT, Nat.reduceEqDiff, Int.reduceLE, Int.reduceLT, Int.reduceAdd, Int.reduceNeg, Int.reduceEq, Int.reduceSub, Int.reduceMul, Int.reduceToNat, ↓reduceIte, reduceCtorEq, call_32, ld_3, ld_27, fa_60_1, fa_60_2]
  · have hp' : ¬ ((pc a.cr : Int) = (pc b.cr : Int)) := by omega
    rw [if_neg hp]
    simp -implicitDefEqProofs (maxSteps := 1000000) (disch := (refine id ?_; first | ((first | fail); (first | (simp +arith only [new_c, new_lock, upd_c, upd_lock, relock_c, relock_lock]; done) | (refine Nat.le_trans hN ?_; simp +arith only [new_c, new_lock, upd_c, upd_lock, relock_c, relock_lock]; done) | fail)) | ((fail_if_success (with_reducible apply isT_of)); (fail_if_success (first | fail)); first | (simp +arith only [new_c, new_lock, upd_c, upd_lock, relock_c, relock_lock]; done) | (refine Nat.le_trans hN ?_; simp +arith only [new_c, new_lock, upd_c, upd_lock, relock_c, relock_lock]; done) | omega | (with_reducible apply Gd.cl; with_reducible assumption) | with_reducible exact Low.rfl' _ | (with_reducible refine Low.new ?_ _; (repeat (first | with_reducible exact Low.rfl' _ | refine Low.new ?_ _ )); done) | (simp only [flatR_int, flatR_bool, flatR_string, flatR_tuple, flatR_agg, flat_int, flat_bool, flat_string, flat_agg, flat0_int, flat0_bool, flat0_string, List.all_cons, List.all_nil, Bool.and_self, Bool.and_true, Bool.true_and]; done) | fail))) only [e1, e2, hp', ha, gcR_some, ↓bindV_some, ↓bindS_some, ↓condB_true, ↓condB_false, bindV_some, bindS_some, ↓condK_B, bin_lss, bin_gtr, bin_neq, box_agg, cell_at, cellOf_row, nth_zero, nth_succ, eq_self, new_at, new_lo, new_c, new_lock, relock2, relock_id, qS_true, unlock_some, decide_true, decide_false, and_self, Bool.not_true, Bool.not_false, Nat.zero_add, Bool.and_self, Nat.reduceAdd, Nat.reduceSub, Nat.reduceMul, Nat.reduceLeDiff, Nat.reduceLT, Nat.reduceEqDiff, Int.reduceLE, Int.reduceLT, Int.reduceAdd, Int.reduceNeg, Int.reduceEq, Int.reduceSub, Int.reduceMul, Int.reduceToNat, ↓reduceIte, reduceCtorEq, call_32, ld_3, ld_27, fa_60_1, fa_60_2]
    refine congrArg (fun x => some (Value.bool x, S)) ?_
    rw [Bool.eq_iff_iff, decide_eq_true_iff, decide_eq_true_iff]
    omega
end
end Go.Proofs.Yteofdikfdknpbaa.F
end
