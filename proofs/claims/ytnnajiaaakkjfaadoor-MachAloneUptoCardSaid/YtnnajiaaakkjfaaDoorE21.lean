/- Memory of the evaluator's at values that are known: rows read, written, grown. -/
import Derived.Test.YtnnajiaaakkjfaaDoorE20
namespace Go.Proofs.YtnnajiaaakkjfaaDoor.E
open Go Go.RowKit
set_option linter.unusedVariables false

/-- A memory as calls find it. -/
structure Gd (W : World) (S : St) : Prop where
  lock : W.heap.size ≤ S.lock
  ok : Ok S
  cl : Cl S
theorem Gd.n {W : World} {S : St} (h : Gd W S) : W.heap.size ≤ S.c := Nat.le_trans h.lock h.ok.1

theorem vlt0_mono {n m : Nat} (h : n ≤ m) {v : Value} (k : vlt0 n v = true) : vlt0 m v = true := by
  cases v with
  | pointer a =>
    cases a with
    | none => rfl
    | some a => exact decide_eq_true (Nat.lt_of_lt_of_le (of_decide_eq_true k) h)
  | slice a l c =>
    cases a with
    | none => rfl
    | some a => exact decide_eq_true (Nat.lt_of_lt_of_le (of_decide_eq_true k) h)
  | map a =>
    cases a with
    | none => rfl
    | some a => exact decide_eq_true (Nat.lt_of_lt_of_le (of_decide_eq_true k) h)
  | _ => exact k
theorem vlt1_mono {n m : Nat} (h : n ≤ m) {v : Value} (k : vlt1 n v = true) : vlt1 m v = true := by
  cases v with
  | func f a b =>
    simp only [vlt1, Bool.and_eq_true, Array.all_eq_true_iff_forall_mem] at k ⊢
    exact ⟨fun x hx => vlt0_mono h (k.1 x hx), fun x hx => vlt0_mono h (k.2 x hx)⟩
  | pointer a => exact vlt0_mono (v := .pointer a) h k
  | slice a l c => exact vlt0_mono (v := .slice a l c) h k
  | map a => exact vlt0_mono (v := .map a) h k
  | _ => first | rfl | exact k
theorem vlt_mono {n m : Nat} (h : n ≤ m) {v : Value} (k : vlt n v = true) : vlt m v = true := by
  cases v with
  | agg cs =>
    simp only [vlt, Array.all_eq_true_iff_forall_mem] at k ⊢
    exact fun x hx => vlt1_mono h (k x hx)
  | pointer a => exact vlt1_mono (v := .pointer a) h k
  | slice a l c => exact vlt1_mono (v := .slice a l c) h k
  | map a => exact vlt1_mono (v := .map a) h k
  | func f a b => exact vlt1_mono (v := .func f a b) h k
  | _ => first | rfl | exact k
theorem objLt_mono {n m : Nat} (h : n ≤ m) {o : AObj} (k : objLt n o = true) : objLt m o = true := by
  cases o with
  | row cs q =>
    simp only [objLt, List.all_eq_true] at k ⊢
    exact fun x hx => vlt1_mono h (k x hx)
  | _ => rfl
theorem vlt1_flat0 {n : Nat} {v : Value} (h : flat0 v = true) : vlt1 n v = true := by
  cases v <;> first | rfl | (rename_i a; cases a <;> first | rfl | cases h) | (rename_i a b c; cases a <;> first | rfl | cases h) | cases h
@[simp] theorem objLt_row (n : Nat) (cs : List Value) (k : Nat) : objLt n (.row cs k) = cs.all (vlt1 n) := rfl
@[simp] theorem objLt_dead (n : Nat) : objLt n .dead = true := rfl
@[simp] theorem vlt1_int (n : Nat) (k : IntKind) (i : Int) : vlt1 n (.int k i) = true := rfl
@[simp] theorem vlt1_bool (n : Nat) (b : Bool) : vlt1 n (.bool b) = true := rfl
@[simp] theorem vlt1_string (n : Nat) (b : ByteArray) : vlt1 n (.string b) = true := rfl
@[simp] theorem vlt1_nilp (n : Nat) : vlt1 n (.pointer none) = true := rfl
@[simp] theorem vlt1_nils (n l c : Nat) : vlt1 n (.slice none l c) = true := rfl
@[simp] theorem vlt1_ptr (n : Nat) (a : Addr) : vlt1 n (.pointer (some a)) = decide (a.block < n) := rfl
@[simp] theorem vlt1_sl (n : Nat) (a : Addr) (l c : Nat) : vlt1 n (.slice (some a) l c) = decide (a.block < n) := rfl
@[simp] theorem vlt1_func (n : Nat) (f : Fn) (a b : Array Value) : vlt1 n (.func f a b) = (a.all (vlt0 n) && b.all (vlt0 n)) := rfl
@[simp] theorem vlt0_ptr (n : Nat) (a : Addr) : vlt0 n (.pointer (some a)) = decide (a.block < n) := rfl
@[simp] theorem vlt0_sl (n : Nat) (a : Addr) (l c : Nat) : vlt0 n (.slice (some a) l c) = decide (a.block < n) := rfl
@[simp] theorem vlt0_int (n : Nat) (k : IntKind) (i : Int) : vlt0 n (.int k i) = true := rfl
@[simp] theorem vlt0_bool (n : Nat) (b : Bool) : vlt0 n (.bool b) = true := rfl
@[simp] theorem vlt0_string (n : Nat) (b : ByteArray) : vlt0 n (.string b) = true := rfl
@[simp] theorem vlt0_nilp (n : Nat) : vlt0 n (.pointer none) = true := rfl
@[simp] theorem vlt0_nils (n l c : Nat) : vlt0 n (.slice none l c) = true := rfl
@[simp] theorem vlt_int (n : Nat) (k : IntKind) (i : Int) : vlt n (.int k i) = true := rfl
@[simp] theorem vlt_bool (n : Nat) (b : Bool) : vlt n (.bool b) = true := rfl
@[simp] theorem vlt_string (n : Nat) (b : ByteArray) : vlt n (.string b) = true := rfl
@[simp] theorem vlt_nilp (n : Nat) : vlt n (.pointer none) = true := rfl
@[simp] theorem vlt_nils (n l c : Nat) : vlt n (.slice none l c) = true := rfl
@[simp] theorem vlt_ptr (n : Nat) (a : Addr) : vlt n (.pointer (some a)) = decide (a.block < n) := rfl
@[simp] theorem vlt_sl (n : Nat) (a : Addr) (l c : Nat) : vlt n (.slice (some a) l c) = decide (a.block < n) := rfl
@[simp] theorem vlt_agg (n : Nat) (cs : List Value) : vlt n (.agg cs.toArray) = cs.all (vlt1 n) := by simp [vlt]
@[simp] theorem vlt_func (n : Nat) (f : Fn) (a b : List Value) : vlt n (.func f a.toArray b.toArray) = (a.all (vlt0 n) && b.all (vlt0 n)) := by simp [vlt, vlt1]

/-- What lay ahead lies there still, but for the blocks D. -/
structure Ext (D : List Nat) (S S' : St) : Prop where
  c : S.c ≤ S'.c
  lock : S'.lock = S.lock
  same : ∀ i, i < S.c → i ∉ D → S'.heap i = S.heap i
  ok : Ok S'
  cl : Cl S → Cl S'

section
variable {W : World} {S S' S'' : St} {D D' : List Nat} {b : Nat}
theorem Ext.refl (h : Ok S) : Ext D S S := ⟨Nat.le_refl _, rfl, fun _ _ _ => rfl, h, fun h => h⟩
theorem Ext.good (h : Ext D S S') (g : Gd W S) : Gd W S' := ⟨by rw [h.lock]; exact g.lock, h.ok, h.cl g.cl⟩
theorem Ext.trans (h : Ext D S S') (k : Ext D' S' S'') (hD : ∀ i, i ∈ D' → i < S.c → i ∈ D) : Ext D S S'' :=
  ⟨Nat.le_trans h.c k.c, k.lock.trans h.lock, fun i hi hd => (k.same i (Nat.lt_of_lt_of_le hi h.c) (fun hh => hd (hD i hh hi))).trans (h.same i hi hd), k.ok, fun q => k.cl (h.cl q)⟩
theorem Ext.mono (h : Ext D S S') (hD : ∀ i, i ∈ D → i ∈ D') : Ext D' S S' := ⟨h.c, h.lock, fun i hi hd => h.same i hi fun hh => hd (hD i hh), h.ok, h.cl⟩
theorem Ext.then (h : Ext [] S S') (k : Ext [] S' S'') : Ext [] S S'' := h.trans k fun i hi => absurd hi (by simp)
theorem Ext.new (h : Ok S) {o : AObj} (ho : objLt (S.c + 1) o = true) : Ext D S (S.new o) :=
  ⟨Nat.le_succ _, rfl, fun i hi _ => if_neg (by omega), ⟨Nat.le_succ_of_le h.1, fun i hi => by
    have hi : S.c + 1 ≤ i := hi
    show (if i = S.c then o else S.heap i) = _
    rw [if_neg (by omega)]
    exact h.2 i (by omega)⟩, fun q i hi => by
    show objLt (S.c + 1) (if i = S.c then o else S.heap i) = true
    have hi : i < S.c + 1 := hi
    by_cases h : i = S.c
    · rw [if_pos h]; exact ho
    · rw [if_neg h]; exact objLt_mono (Nat.le_succ _) (q i (by omega))⟩
theorem Ext.upd (h : Ok S) {i : Nat} (hi : i < S.c) {o : AObj} (ho : objLt S.c o = true) : Ext [i] S (S.upd i o) :=
  ⟨Nat.le_refl _, rfl, fun j _ hj => if_neg (by simpa using hj), ⟨h.1, fun j hj => by
    have hj : S.c ≤ j := hj
    show (if j = i then o else S.heap j) = _
    rw [if_neg (by omega)]
    exact h.2 j hj⟩, fun q j hj => by
    show objLt S.c (if j = i then o else S.heap j) = true
    by_cases h : j = i
    · rw [if_pos h]; exact ho
    · rw [if_neg h]; exact q j hj⟩
theorem Ext.low (h : Ext [] S S') : Low S S' := ⟨h.lock, h.c, fun i hi => h.same i hi (by simp)⟩
theorem isZ_none (b o : Nat) : isZ W ⟨b, o, none⟩ = false := rfl
@[simp] theorem new_self (o : AObj) : (S.new o).heap S.c = o := if_pos rfl
theorem new_ne (o : AObj) {i : Nat} (h : i ≠ S.c) : (S.new o).heap i = S.heap i := if_neg h
@[simp] theorem new_c (o : AObj) : (S.new o).c = S.c + 1 := rfl
@[simp] theorem new_lock (o : AObj) : (S.new o).lock = S.lock := rfl
@[simp] theorem upd_self (i : Nat) (o : AObj) : (S.upd i o).heap i = o := if_pos rfl
theorem upd_ne {i j : Nat} (o : AObj) (h : j ≠ i) : (S.upd i o).heap j = S.heap j := if_neg h
@[simp] theorem upd_c (i : Nat) (o : AObj) : (S.upd i o).c = S.c := rfl
@[simp] theorem upd_lock (i : Nat) (o : AObj) : (S.upd i o).lock = S.lock := rfl
theorem relock_ok' (h : Ok S) : Ok (S.relock S.c) := ⟨Nat.le_refl _, h.2⟩
theorem Gd.relock (h : Gd W S) : Gd W (S.relock S.c) := ⟨h.n, relock_ok' h.ok, h.cl⟩
theorem qS_of {f : St → Option (Value × St)} {v : Value} {S1 : St} (h : f (S.relock S.c) = some (v, S1)) : qS true S f = some (v, S1.relock S.lock) := by
  unfold qS unlock; simp only [h]
theorem Ext.relock (h : Ext D (S.relock S.c) S') (hl : S.lock ≤ S.c) : Ext D S (S'.relock S.lock) :=
  ⟨h.c, rfl, h.same, ⟨Nat.le_trans hl h.c, h.ok.2⟩, h.cl⟩
theorem Ext.lt (h : Ok S) {i : Nat} (hd : S.heap i ≠ .dead) : i < S.c := Nat.lt_of_not_le fun hh => hd (h.2 i hh)
theorem row_lt (h : Ok S) {i : Nat} {cs : List Value} {k : Nat} (hr : S.heap i = .row cs k) : i < S.c := Ext.lt h (by rw [hr]; exact fun e => by cases e)

/-! Reading -/
theorem cell_mk (hb : W.heap.size ≤ b) {cs : List Value} {k o : Nat} (h : S.heap b = .row cs k) : S.cell W ⟨b, o, none⟩ = cs[o]? := by
  unfold St.cell
  rw [if_neg (by dsimp only; omega), h]
theorem cells_mk (hb : W.heap.size ≤ b) {cs : List Value} {k o n : Nat} (h : S.heap b = .row cs k) (hle : o + n ≤ cs.length) : S.cells W ⟨b, o, none⟩ n = some ((cs.drop o).take n) := by
  unfold St.cells
  by_cases h0 : n = 0
  · subst h0; rw [if_pos rfl]; simp
  · rw [if_neg h0, if_neg (by dsimp only; omega), h]
    dsimp only
    rw [if_pos hle]
theorem cells_all (hb : W.heap.size ≤ b) {cs : List Value} {k : Nat} (h : S.heap b = .row cs k) : S.cells W ⟨b, 0, none⟩ cs.length = some cs := by
  rw [cells_mk hb h (by omega)]; simp
@[simp] theorem fx_row (hb : W.heap.size ≤ b) {cs : List Value} {k o : Nat} {sp : Option Nat} (h : S.heap b = .row cs k) : S.fx W ⟨b, o, sp⟩ = some k := by
  unfold St.fx
  rw [if_neg (by dsimp only; omega), h]
theorem fx_old {a : Addr} (hb : a.block < W.heap.size) : S.fx W a = some 0 := if_pos hb
theorem put_mk {b o : Nat} {cs vs : List Value} {k : Nat} (hl : S.lock ≤ b) (h : S.heap b = .row cs k) (hle : o + vs.length ≤ cs.length) (hs : vs.all storable = true) : S.put ⟨b, o, none⟩ vs = some (S.upd b (.row (splice cs o vs) k)) ∨ vs = [] := by
  by_cases h0 : vs.length = 0
  · exact .inr (List.eq_nil_of_length_eq_zero h0)
  · refine .inl ?_
    unfold St.put
    rw [if_neg h0, if_pos hl, h]
    dsimp only
    rw [if_pos hle, if_pos hs]
theorem put_one {b o : Nat} {cs : List Value} {k : Nat} {v : Value} (hl : S.lock ≤ b) (h : S.heap b = .row cs k) (hle : o < cs.length) (hs : storable v = true) : S.put ⟨b, o, none⟩ [v] = some (S.upd b (.row (cs.set o v) k)) :=
  (put_mk hl h (vs := [v]) (by simp only [List.length_cons, List.length_nil]; omega) (by simpa using hs)).resolve_right (by simp)
end

section
variable {P : Program} {W : World} {S S' : St}

@[simp] theorem box_mk {v : Value} (h : notJ v = true) : aBox S v = some (.pointer (some ⟨S.c, 0, none⟩), S.new (.row v.cells.toList 0)) := by
  unfold aBox; rw [if_pos h]
theorem store_mk {t : TypeId} {a : Addr} {v : Value} (hs : szOf P t = some v.cells.size) (hj : notJ v = true) : aStore P S t (.pointer (some a)) v = S.put a v.cells.toList := by
  simp only [aStore]; rw [if_pos ⟨hs, hj⟩]
theorem index_mk {t e : TypeId} {n : Nat} (h : P.underlying t = some (.slice e)) (hs : szOf P e = some n) {a : Addr} {len c : Nat} {k : IntKind} {i : Int} (h0 : 0 ≤ i) (h1 : i < len) :
    aIndexAddr P t (.slice (some a) len c) (.int k i) = some (.pointer (some (a.add (i.toNat * n)))) := by
  simp only [aIndexAddr, h, hs, if_pos (And.intro h0 h1)]

/-- The elements of a slice's type. -/
structure Elem (P : Program) (st e : TypeId) (z : Value) (sz by_ : Nat) : Prop where
  und : P.underlying st = some (.slice e)
  info : ∃ ie, P.info? e = some ie ∧ ie.zero = some z ∧ ie.size = sz ∧ ie.bytes = by_
  zsz : z.cells.size = sz
  pos : 0 < sz
  bpos : 0 < by_
  flat : flat z = true
theorem Elem.sz {st e : TypeId} {z : Value} {sz by_ : Nat} (h : Elem P st e z sz by_) : szOf P e = some sz := by
  obtain ⟨ie, h1, _, h3, _⟩ := h.info
  unfold szOf
  rw [h1, ← h3]; rfl
def elemB (P : Program) (st e : TypeId) (sz by_ : Nat) : Bool :=
  (match P.underlying st with | some (.slice e') => e' == e | _ => false) &&
  (match P.info? e with
   | some ie => ie.size == sz && ie.bytes == by_ && (match ie.zero with | some z => z.cells.size == sz && flat z | none => false)
   | none => false) && decide (0 < sz) && decide (0 < by_)
def zeroOf (P : Program) (e : TypeId) : Value := match P.info? e with | some ie => ie.zero.getD undef | none => undef
theorem elem_of {st e : TypeId} {sz by_ : Nat} (h : elemB P st e sz by_ = true) : Elem P st e (zeroOf P e) sz by_ := by
  unfold elemB at h
  simp only [Bool.and_eq_true, decide_eq_true_eq] at h
  obtain ⟨⟨⟨h1, h2⟩, h3⟩, h4⟩ := h
  have hu : P.underlying st = some (.slice e) := by
    split at h1
    · rename_i e' he; rw [he]; simp only [beq_iff_eq] at h1; rw [h1]
    · cases h1
  cases hi : P.info? e with
  | none => rw [hi] at h2; cases h2
  | some ie =>
    rw [hi] at h2
    simp only [Bool.and_eq_true, beq_iff_eq] at h2
    cases hz : ie.zero with
    | none => rw [hz] at h2; exact absurd h2.2 (by simp)
    | some z =>
      rw [hz] at h2
      simp only [Bool.and_eq_true, beq_iff_eq] at h2
      have e0 : zeroOf P e = z := by unfold zeroOf; rw [hi]; dsimp only; rw [hz]; rfl
      rw [e0]
      exact ⟨hu, ⟨ie, hi, hz, h2.1.1, h2.1.2⟩, h2.2.1, h3, h4, h2.2.2⟩

/-- What an append lays behind: n elements with these cells. -/
def SrcIs (P : Program) (W : World) (S : St) (xt : TypeId) (sz : Nat) (z x : Value) (n : Nat) (new : List Value) : Prop := srcOf P W S xt sz z x = some (n, new)
theorem src_slice {xt : TypeId} {d : TypeDesc} (hx : P.underlying xt = some d) (hd : ∀ k, d ≠ .int k) {sz : Nat} {z : Value} {a : Addr} {n c : Nat} {l : List Value} (h : S.cells W a (n * sz) = some l) : SrcIs P W S xt sz z (.slice (some a) n c) n l := by
  have hi : isIntT P xt = false := by unfold isIntT; rw [hx]; cases d <;> first | rfl | exact absurd rfl (hd _)
  unfold SrcIs srcOf
  rw [hx, hi]
  rw [if_neg (by simp)]
  simp only [Bool.false_eq_true, if_false, srcCells, h]
theorem src_nil {xt : TypeId} {d : TypeDesc} (hx : P.underlying xt = some d) (hd : ∀ k, d ≠ .int k) {sz : Nat} {z : Value} {c : Nat} : SrcIs P W S xt sz z (.slice none 0 c) 0 [] := by
  have hi : isIntT P xt = false := by unfold isIntT; rw [hx]; cases d <;> first | rfl | exact absurd rfl (hd _)
  unfold SrcIs srcOf
  rw [hx, hi]
  rw [if_neg (by simp)]
  simp [srcCells]
theorem src_str {xt : TypeId} (hx : P.underlying xt = some .string) {z : Value} {s : ByteArray} : SrcIs P W S xt 1 z (.string s) s.size (s.data.toList.map fun b => .int .u8 b.toNat) := by
  unfold SrcIs srcOf isIntT
  rw [hx]
  simp [srcCells]
theorem src_zeros {xt : TypeId} {k : IntKind} (hx : P.underlying xt = some (.int k)) {sz : Nat} {z : Value} {n : Int} (h0 : 0 ≤ n) (h1 : n ≤ 2 ^ 46) : SrcIs P W S xt sz z (.int .i64 n) n.toNat (zeros n.toNat z.cells.toList) := by
  unfold SrcIs srcOf isIntT
  rw [hx]
  rw [if_neg (by simp)]
  simp only [if_true]
  rw [if_pos ⟨h0, h1⟩]

/-- A slice of the call's own that may grow: its cells. -/
def Own (S : St) (v : Value) (sz : Nat) (cs : List Value) : Prop :=
  (v = .slice none 0 0 ∧ cs = []) ∨
  ∃ b n c pre, v = .slice (some ⟨b, pre.length, none⟩) n c ∧ S.lock ≤ b ∧ S.heap b = .row (pre ++ cs) sz ∧ n * sz = cs.length ∧ n ≤ c
def blkOf : Value → List Nat
  | .slice (some a) _ _ => [a.block]
  | _ => []
theorem Own.keep {v : Value} {sz : Nat} {cs : List Value} {D : List Nat} (h : Own S v sz cs) (e : Ext D S S') (hd : ∀ i, i ∈ blkOf v → i ∉ D) (ok : Ok S) : Own S' v sz cs := by
  rcases h with h | ⟨b, n, c, pre, rfl, h1, h2, h3⟩
  · exact .inl h
  · exact .inr ⟨b, n, c, pre, rfl, by rw [e.lock]; exact h1, by rw [e.same b (row_lt ok h2) (hd b (by simp [blkOf]))]; exact h2, h3⟩
theorem own_nil {sz : Nat} : Own S (.slice none 0 0) sz [] := .inl ⟨rfl, rfl⟩

/-- Append to a slice of the call's own. -/
theorem append_own (g : Gd W S) {st xt e : TypeId} {z : Value} {sz by_ : Nat} (E : Elem P st e z sz by_) {v : Value} {cs : List Value} (h : Own S v sz cs) {x : Value} {n : Nat} {new : List Value} (hx : SrcIs P W S xt sz z x n new) (hn : new.length = n * sz) (hst : new.all storable = true) (hcl : new.all (vlt1 S.c) = true)
    {len : Nat} (hl : cs.length = len * sz) (hb : (len + n + (len + n) / 4 + 512) * by_ ≤ 2 ^ 48) :
    ∃ v' S', aBuiltin P W S .append #[st, xt] #[v, x] = some (v', S') ∧ Own S' v' sz (cs ++ new) ∧ Ext (blkOf v) S S' ∧ (∀ i, i ∈ blkOf v' → S.c ≤ i) := by
  obtain ⟨ie, i1, i2, i3, i4⟩ := E.info
  have hx : srcOf P W S xt ie.size z x = some (n, new) := by rw [i3]; exact hx
  have hcond : z.cells.size = ie.size ∧ 0 < ie.size ∧ 0 < ie.bytes ∧ flat z = true := ⟨E.zsz.trans i3.symm, by rw [i3]; exact E.pos, by rw [i4]; exact E.bpos, E.flat⟩
  rcases h with ⟨rfl, rfl⟩ | ⟨b, m, c, pre, rfl, h1, h2, h3, h3c⟩
  · have hlen : len = 0 := by
      have := E.pos
      rcases Nat.eq_zero_or_pos len with h | h
      · exact h
      · have := Nat.mul_pos h E.pos; simp at hl; omega
    subst hlen
    by_cases h0 : n = 0
    · subst h0
      have : new = [] := List.eq_nil_of_length_eq_zero (by rw [hn]; omega)
      subst this
      refine ⟨.slice none 0 0, S, ?_, own_nil, Ext.refl g.ok, fun i hi => absurd hi (by simp [blkOf])⟩
      show aAppend P W S #[st, xt] #[.slice none 0 0, x] = _
      have a0 : (#[Value.slice none 0 0, x] : Array Value)[0]? = some (.slice none 0 0) := rfl
      have a1 : (#[Value.slice none 0 0, x] : Array Value)[1]? = some x := rfl
      unfold aAppend
      simp only [a0, a1, List.getElem?_toArray, List.getElem?_cons_zero, List.getElem?_cons_succ, E.und, i1, i2, if_pos hcond, hx]
      rw [if_pos (by rw [i4]; exact hb)]
      simp
    · refine ⟨.slice (some ⟨S.c, 0, none⟩) n n, S.new (.row new sz), ?_, .inr ⟨S.c, n, n, [], rfl, g.ok.1, by simp, by simpa using hn.symm, Nat.le_refl _⟩, Ext.new g.ok (objLt_mono (Nat.le_succ _) hcl), fun i hi => by simp [blkOf] at hi; omega⟩
      show aAppend P W S #[st, xt] #[.slice none 0 0, x] = _
      have a0 : (#[Value.slice none 0 0, x] : Array Value)[0]? = some (.slice none 0 0) := rfl
      have a1 : (#[Value.slice none 0 0, x] : Array Value)[1]? = some x := rfl
      unfold aAppend
      simp only [a0, a1, List.getElem?_toArray, List.getElem?_cons_zero, List.getElem?_cons_succ, E.und, i1, i2, if_pos hcond, hx]
      rw [if_pos (by rw [i4]; exact hb)]
      simp [h0, i3]
  · have hm : m = len := by
      have := E.pos
      rw [hl] at h3
      exact Nat.eq_of_mul_eq_mul_right E.pos h3
    subst hm
    have hbl : b < S.c := row_lt g.ok h2
    have hNb : W.heap.size ≤ b := Nat.le_trans g.lock h1
    refine ⟨.slice (some ⟨S.c, 0, none⟩) (m + n) (m + n), (S.upd b .dead).new (.row (cs ++ new) sz), ?_, .inr ⟨S.c, m + n, m + n, [], rfl, g.ok.1, by
        show (if S.c = S.c then _ else _) = _
        rw [if_pos rfl]; rfl, by rw [Nat.add_mul, List.length_append, ← hn, h3], Nat.le_refl _⟩, ?_, fun i hi => by simp [blkOf] at hi; omega⟩
    · show aAppend P W S #[st, xt] #[.slice (some ⟨b, pre.length, none⟩) m c, x] = _
      have a0 : (#[Value.slice (some ⟨b, pre.length, none⟩) m c, x] : Array Value)[0]? = some (.slice (some ⟨b, pre.length, none⟩) m c) := rfl
      have a1 : (#[Value.slice (some ⟨b, pre.length, none⟩) m c, x] : Array Value)[1]? = some x := rfl
      obtain ⟨q, hq⟩ : ∃ q, sz = q + 1 := ⟨sz - 1, by have := E.pos; omega⟩
      have hfx : S.fx W ⟨b, pre.length, none⟩ = some (q + 1) := by rw [fx_row hNb h2, hq]
      unfold aAppend
      simp only [a0, a1, List.getElem?_toArray, List.getElem?_cons_zero, List.getElem?_cons_succ, E.und, i1, i2, if_pos hcond, hx]
      rw [if_pos (by rw [i4]; exact hb)]
      rw [if_neg (by rw [isZ_none]; exact Bool.false_ne_true)]
      simp only [hfx, h2]
      rw [if_pos ⟨by rw [i3, hq], by rw [i3, h3, List.length_append]; exact Nat.le_refl _, h1, hst⟩]
      rw [i3, h3]
      simp
    · have e1 := Ext.upd (S := S) g.ok hbl (o := .dead) rfl
      have hrow := g.cl b hbl
      rw [h2, objLt_row, List.all_append, Bool.and_eq_true] at hrow
      exact e1.trans (Ext.new e1.ok (D := []) (objLt_mono (Nat.le_succ S.c) (by rw [objLt_row, List.all_append, hrow.2, hcl]; rfl))) fun i hi => absurd hi (by simp)
end
end Go.Proofs.YtnnajiaaakkjfaaDoor.E
