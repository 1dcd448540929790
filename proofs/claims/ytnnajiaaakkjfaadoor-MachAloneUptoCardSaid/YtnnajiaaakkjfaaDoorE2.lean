/- How a memory of the evaluator's stands to a world: definitions and laws. -/
import Derived.Test.YtnnajiaaakkjfaaDoorE1
namespace Go.Proofs.YtnnajiaaakkjfaaDoor.E
open Go Go.RowKit
set_option linter.unusedVariables false

/-- Where a block of the evaluator's lies: block, offset; elements of 'esz' cells with room behind them (0: none); how many cells that block has. -/
structure Loc where
  blk : Nat
  off : Nat
  esz : Nat
  tot : Nat

abbrev Emb := Nat → Option Loc

def ARel (N : Nat) (φ : Emb) (a a' : Addr) : Prop :=
  ∃ L, φ a.block = some L ∧ a'.block = L.blk ∧ a'.off = L.off + a.off ∧ a'.spot = a.spot ∧ (N ≤ a.block → a.spot = none)

def SRel (N : Nat) (φ : Emb) (a : Addr) (l c : Nat) (a' : Addr) (c' : Nat) : Prop :=
  ∃ L, φ a.block = some L ∧ a'.block = L.blk ∧ a'.spot = a.spot ∧ (N ≤ a.block → a.spot = none) ∧
    ((L.esz = 0 ∧ c' = c ∧ a'.off = L.off + a.off) ∨
     (L.esz ≠ 0 ∧ c ≤ c' ∧ a'.off = L.off + a.off ∧ a'.off + c' * L.esz ≤ L.tot) ∨
     (L.esz ≠ 0 ∧ l = 0 ∧ c = 0 ∧ c' = 0))

inductive VRel (N : Nat) (φ : Emb) : Value → Value → Prop
  | bool (b) : VRel N φ (.bool b) (.bool b)
  | int (k n) : VRel N φ (.int k n) (.int k n)
  | float (k n) : VRel N φ (.float k n) (.float k n)
  | string (s) : VRel N φ (.string s) (.string s)
  | nilPtr : VRel N φ (.pointer none) (.pointer none)
  | ptr {a a'} : ARel N φ a a' → VRel N φ (.pointer (some a)) (.pointer (some a'))
  | nilSl (l c) : VRel N φ (.slice none l c) (.slice none l c)
  | sl {a a' l c c'} : SRel N φ a l c a' c' → VRel N φ (.slice (some a) l c) (.slice (some a') l c')
  | sl0 {b o : Nat} {a' : Addr} : N ≤ b → VRel N φ (.slice (some ⟨b, o, some 0⟩) 0 0) (.slice (some a') 0 0)
  | nilMap : VRel N φ (.map none) (.map none)
  | map {r L} : φ r = some L → L.off = 0 → VRel N φ (.map (some r)) (.map (some L.blk))
  | nilFunc : VRel N φ .nilFunc .nilFunc
  | any (v) : VRel N φ (.chan none) v
  | func (fn) {u u' v v' : Array Value} : u.size = u'.size → (∀ i (h : i < u.size) (h' : i < u'.size), VRel N φ u[i] u'[i]) → v.size = v'.size → (∀ i (h : i < v.size) (h' : i < v'.size), VRel N φ v[i] v'[i]) → VRel N φ (.func fn u v) (.func fn u' v')
  | agg {u u' : Array Value} : u.size = u'.size → (∀ i (h : i < u.size) (h' : i < u'.size), VRel N φ u[i] u'[i]) → VRel N φ (.agg u) (.agg u')
  | tuple {u u' : Array Value} : u.size = u'.size → (∀ i (h : i < u.size) (h' : i < u'.size), VRel N φ u[i] u'[i]) → VRel N φ (.tuple u) (.tuple u')

def LRel (N : Nat) (φ : Emb) (l l' : List Value) : Prop := l.length = l'.length ∧ ∀ (i : Nat) (v : Value), l[i]? = some v → ∃ v', l'[i]? = some v' ∧ VRel N φ v v'
def RRel (N : Nat) (φ : Emb) (u u' : Array Value) : Prop := LRel N φ u.toList u'.toList

def ELe (φ φ' : Emb) : Prop := ∀ i L, φ i = some L → φ' i = some L
theorem ELe.refl (φ : Emb) : ELe φ φ := fun _ _ h => h
theorem ELe.trans {a b c : Emb} (h : ELe a b) (k : ELe b c) : ELe a c := fun i L e => k i L (h i L e)

section
variable {N : Nat} {φ φ' : Emb}

theorem ARel.mono (h : ELe φ φ') {a a' : Addr} (k : ARel N φ a a') : ARel N φ' a a' := let ⟨L, e, r⟩ := k; ⟨L, h _ _ e, r⟩
theorem SRel.mono (h : ELe φ φ') {a a' : Addr} {l c c' : Nat} (k : SRel N φ a l c a' c') : SRel N φ' a l c a' c' := let ⟨L, e, r⟩ := k; ⟨L, h _ _ e, r⟩
theorem VRel.mono (h : ELe φ φ') {v v' : Value} (k : VRel N φ v v') : VRel N φ' v v' := by
  induction k with
  | bool => exact .bool _
  | int => exact .int _ _
  | float => exact .float _ _
  | string => exact .string _
  | nilPtr => exact .nilPtr
  | ptr h1 => exact .ptr (h1.mono h)
  | nilSl => exact .nilSl _ _
  | sl h1 => exact .sl (h1.mono h)
  | sl0 h1 => exact .sl0 h1
  | nilMap => exact .nilMap
  | map h1 h2 => exact .map (h _ _ h1) h2
  | nilFunc => exact .nilFunc
  | any v => exact .any v
  | func fn h1 h2 h3 h4 i1 i2 => exact .func fn h1 i1 h3 i2
  | agg h1 h2 i1 => exact .agg h1 i1
  | tuple h1 h2 i1 => exact .tuple h1 i1
theorem LRel.mono (h : ELe φ φ') {l l' : List Value} (k : LRel N φ l l') : LRel N φ' l l' := ⟨k.1, fun i v e => let ⟨v', e', r⟩ := k.2 i v e; ⟨v', e', r.mono h⟩⟩

theorem LRel.nil : LRel N φ [] [] := ⟨rfl, fun i v e => by simp at e⟩
theorem LRel.cons {v v' : Value} {l l' : List Value} (h : VRel N φ v v') (k : LRel N φ l l') : LRel N φ (v :: l) (v' :: l') := by
  refine ⟨by simp [k.1], fun i u e => ?_⟩
  cases i with
  | zero => simp at e; subst e; exact ⟨v', by simp, h⟩
  | succ i => simp at e; obtain ⟨u', e', r⟩ := k.2 i u e; exact ⟨u', by simpa using e', r⟩
theorem LRel.uncons {v : Value} {l l' : List Value} (h : LRel N φ (v :: l) l') : ∃ v' r, l' = v' :: r ∧ VRel N φ v v' ∧ LRel N φ l r := by
  cases l' with
  | nil => exact absurd h.1 (by simp)
  | cons v' r =>
    refine ⟨v', r, rfl, ?_, by have := h.1; simpa using this, fun i u e => ?_⟩
    · obtain ⟨u, e, k⟩ := h.2 0 v (by simp); simp at e; subst e; exact k
    · obtain ⟨u', e', k⟩ := h.2 (i + 1) u (by simpa using e); exact ⟨u', by simpa using e', k⟩
theorem LRel.of_nil {l' : List Value} (h : LRel N φ [] l') : l' = [] := List.eq_nil_of_length_eq_zero h.1.symm
theorem LRel.append {a a' b b' : List Value} (h : LRel N φ a a') (k : LRel N φ b b') : LRel N φ (a ++ b) (a' ++ b') := by
  induction a generalizing a' with
  | nil => rw [LRel.of_nil h]; exact k
  | cons v l ih => obtain ⟨v', r, rfl, h1, h2⟩ := h.uncons; exact LRel.cons h1 (ih h2)
theorem LRel.take {a a' : List Value} (h : LRel N φ a a') (n : Nat) : LRel N φ (a.take n) (a'.take n) := by
  refine ⟨by simp [h.1], fun i v e => ?_⟩
  rw [List.getElem?_take] at e ⊢
  by_cases hi : i < n
  · rw [if_pos hi] at e ⊢; exact h.2 i v e
  · rw [if_neg hi] at e; cases e
theorem LRel.drop {a a' : List Value} (h : LRel N φ a a') (n : Nat) : LRel N φ (a.drop n) (a'.drop n) := by
  refine ⟨by simp [h.1], fun i v e => ?_⟩
  rw [List.getElem?_drop] at e ⊢
  exact h.2 _ v e
theorem LRel.set {a a' : List Value} (h : LRel N φ a a') (n : Nat) {v v' : Value} (k : VRel N φ v v') : LRel N φ (a.set n v) (a'.set n v') := by
  refine ⟨by simp [h.1], fun i u e => ?_⟩
  rw [List.getElem?_set] at e ⊢
  by_cases hi : n = i
  · rw [if_pos hi] at e ⊢
    by_cases hl : n < a.length
    · rw [if_pos hl] at e; rw [if_pos (h.1 ▸ hl)]; cases e; exact ⟨v', rfl, k⟩
    · rw [if_neg hl] at e; cases e
  · rw [if_neg hi] at e ⊢; exact h.2 i u e

theorem RRel.of_pt {u u' : Array Value} (h : u.size = u'.size) (k : ∀ i (h : i < u.size) (h' : i < u'.size), VRel N φ u[i] u'[i]) : RRel N φ u u' := by
  refine ⟨by simpa using h, fun i v e => ?_⟩
  obtain ⟨hi, e⟩ := List.getElem?_eq_some_iff.1 e
  have hi1 : i < u.size := by simpa using hi
  have hi2 : i < u'.size := h ▸ hi1
  subst e
  exact ⟨u'[i], by rw [List.getElem?_eq_getElem (by simpa using hi2)]; simp, by simpa using k i hi1 hi2⟩
theorem RRel.pt {u u' : Array Value} (h : RRel N φ u u') : ∀ i (h : i < u.size) (h' : i < u'.size), VRel N φ u[i] u'[i] := by
  intro i h1 h2
  obtain ⟨v', e, k⟩ := h.2 i u[i] (by rw [List.getElem?_eq_getElem (by simpa using h1)]; simp)
  rw [List.getElem?_eq_getElem (by simpa using h2)] at e
  simp at e
  rwa [e]
theorem RRel.size {u u' : Array Value} (h : RRel N φ u u') : u.size = u'.size := by simpa using h.1
theorem VRel.agg' {u u' : Array Value} (h : RRel N φ u u') : VRel N φ (.agg u) (.agg u') := .agg h.size h.pt
theorem VRel.tuple' {u u' : Array Value} (h : RRel N φ u u') : VRel N φ (.tuple u) (.tuple u') := .tuple h.size h.pt
theorem VRel.func' (fn : Fn) {u u' v v' : Array Value} (h : RRel N φ u u') (k : RRel N φ v v') : VRel N φ (.func fn u v) (.func fn u' v') := .func fn h.size h.pt k.size k.pt
theorem RRel.mono (h : ELe φ φ') {l l' : Array Value} (k : RRel N φ l l') : RRel N φ' l l' := LRel.mono h k
theorem RRel.getElem? {u u' : Array Value} (h : RRel N φ u u') {i : Nat} {v : Value} (e : u[i]? = some v) : ∃ v', u'[i]? = some v' ∧ VRel N φ v v' := by
  obtain ⟨v', e', k⟩ := h.2 i v (by rw [Array.getElem?_toList]; exact e)
  exact ⟨v', by rw [← Array.getElem?_toList]; exact e', k⟩
theorem undef_rel : VRel N φ undef undef := .tuple rfl fun i h => absurd h (by simp)
theorem RRel.getD {u u' : Array Value} (h : RRel N φ u u') (i : Nat) : VRel N φ (u.getD i undef) (u'.getD i undef) := by
  by_cases hi : i < u.size
  · have hi' := h.size ▸ hi
    simp only [Array.getD, hi, hi', dif_pos]
    exact h.pt i hi hi'
  · have hi' : ¬ i < u'.size := h.size ▸ hi
    simp only [Array.getD, hi, hi', dif_neg, not_false_eq_true]
    exact undef_rel
theorem RRel.set {u u' : Array Value} (h : RRel N φ u u') (i : Nat) {v v' : Value} (k : VRel N φ v v') : RRel N φ (u.setIfInBounds i v) (u'.setIfInBounds i v') := by
  unfold RRel
  rw [Array.toList_setIfInBounds, Array.toList_setIfInBounds]
  exact LRel.set h i k
theorem RRel.append {a a' b b' : Array Value} (h : RRel N φ a a') (k : RRel N φ b b') : RRel N φ (a ++ b) (a' ++ b') := by
  unfold RRel
  rw [Array.toList_append, Array.toList_append]
  exact LRel.append h k
theorem RRel.extract {a a' : Array Value} (h : RRel N φ a a') (i j : Nat) : RRel N φ (a.extract i j) (a'.extract i j) := by
  unfold RRel
  rw [Array.toList_extract, Array.toList_extract]
  exact LRel.take (LRel.drop h _) _
theorem LRel.map {α : Type} {f g : α → Value} (l : List α) (h : ∀ x ∈ l, VRel N φ (f x) (g x)) : LRel N φ (l.map f) (l.map g) := by
  induction l with
  | nil => exact LRel.nil
  | cons x l ih => exact LRel.cons (h x (by simp)) (ih fun y hy => h y (by simp [hy]))
theorem RRel.map {α : Type} {f g : α → Value} (l : Array α) (h : ∀ x ∈ l, VRel N φ (f x) (g x)) : RRel N φ (l.map f) (l.map g) := by
  unfold RRel
  rw [Array.toList_map, Array.toList_map]
  exact LRel.map _ fun x hx => h x (by simpa using hx)

theorem flat0_eq {v v' : Value} (h : flat0 v = true) (k : VRel N φ v v') : v' = v := by
  cases k <;> first | rfl | simp [flat0] at h
theorem flat_eq {v v' : Value} (h : flat v = true) (k : VRel N φ v v') : v' = v := by
  cases k with
  | agg hs hp =>
    rename_i u u'
    simp only [flat, Array.all_eq_true_iff_forall_mem] at h
    congr 1
    refine Array.ext hs.symm fun i h1 h2 => flat0_eq (h _ (Array.getElem_mem h2)) (hp i h2 h1)
  | _ => first | rfl | simp [flat, flat0] at h
theorem flat_notJ {v : Value} (h : flat v = true) : notJ v = true := by
  cases v <;> first | rfl | simp [flat, flat0] at h
theorem flat0_refl {v : Value} (h : flat0 v = true) : VRel N φ v v := by
  cases v with
  | bool => exact .bool _
  | int => exact .int _ _
  | float => exact .float _ _
  | string => exact .string _
  | pointer a => cases a with | none => exact .nilPtr | some _ => simp [flat0] at h
  | slice a => cases a with | none => exact .nilSl _ _ | some _ => simp [flat0] at h
  | map a => cases a with | none => exact .nilMap | some _ => simp [flat0] at h
  | nilFunc => exact .nilFunc
  | _ => simp [flat0] at h
theorem flat_refl {v : Value} (h : flat v = true) : VRel N φ v v := by
  cases v with
  | agg cs =>
    simp only [flat, Array.all_eq_true_iff_forall_mem] at h
    exact .agg rfl fun i h1 h2 => flat0_refl (h _ (Array.getElem_mem h1))
  | _ => exact flat0_refl h
theorem cells_rel {v v' : Value} (hj : notJ v = true) (k : VRel N φ v v') : RRel N φ v.cells v'.cells := by
  cases k with
  | any v => cases hj
  | agg hs hp => exact RRel.of_pt hs hp
  | sl0 h => exact LRel.cons (.sl0 h) LRel.nil
  | _ => exact LRel.cons (by constructor <;> assumption) LRel.nil
end

section
variable {N : Nat} {φ φ' : Emb}
/-- What stands in what was there stands there still. -/
theorem VRel.back (h : ELe φ φ') {v v0 v' : Value} (k : VRel N φ v v0) (q : VRel N φ' v v') : VRel N φ v v' := by
  induction k generalizing v' with
  | bool => cases q; exact .bool _
  | int => cases q; exact .int _ _
  | float => cases q; exact .float _ _
  | string => cases q; exact .string _
  | nilPtr => cases q; exact .nilPtr
  | ptr h1 =>
    cases q with
    | ptr h2 =>
      obtain ⟨L, e, r⟩ := h1
      obtain ⟨L2, e2, r2⟩ := h2
      rw [h _ _ e] at e2
      cases e2
      exact .ptr ⟨L, e, r2⟩
  | nilSl => cases q; exact .nilSl _ _
  | sl h1 =>
    cases q with
    | sl h2 =>
      obtain ⟨L, e, r⟩ := h1
      obtain ⟨L2, e2, r2⟩ := h2
      rw [h _ _ e] at e2
      cases e2
      exact .sl ⟨L, e, r2⟩
    | sl0 h2 => exact .sl0 h2
  | sl0 h1 =>
    cases q with
    | sl h2 =>
      obtain ⟨L, e, r1, r2, r3, r4⟩ := h2
      have := r3 h1
      cases this
    | sl0 h2 => exact .sl0 h2
  | nilMap => cases q; exact .nilMap
  | map h1 h2 =>
    cases q with
    | map h3 h4 =>
      rw [h _ _ h1] at h3
      cases h3
      exact .map h1 h2
  | nilFunc => cases q; exact .nilFunc
  | any v => exact .any v'
  | func fn h1 h2 h3 h4 i1 i2 =>
    cases q with
    | func _ g1 g2 g3 g4 => exact .func fn g1 (fun i a b => i1 i a (by omega) (g2 i a b)) g3 (fun i a b => i2 i a (by omega) (g4 i a b))
  | agg h1 h2 i1 =>
    cases q with
    | agg g1 g2 => exact .agg g1 (fun i a b => i1 i a (by omega) (g2 i a b))
  | tuple h1 h2 i1 =>
    cases q with
    | tuple g1 g2 => exact .tuple g1 (fun i a b => i1 i a (by omega) (g2 i a b))
end

/-- What block 'i' holds lies in the world at L. -/
def BRel (N : Nat) (φ : Emb) (w : World) (L : Loc) : AObj → Prop
  | .dead => True
  | .row cs k => ∃ C e fr, w.heap[L.blk]? = some (.cells C e fr) ∧ (∀ j, j < C.size → ¬ (fr.1 ≤ j ∧ j < fr.2)) ∧ L.esz = k ∧ L.tot = C.size ∧
      L.off + cs.length ≤ C.size ∧ ∀ j v, cs[j]? = some v → ∃ v', C[L.off + j]? = some v' ∧ VRel N φ v v'
  | .map es clk => w.heap[L.blk]? = some (.map es clk) ∧ L.off = 0 ∧ (∀ e ∈ es, flat0 e.key = true ∧ flat0 e.val = true)

structure Rel (W : World) (φ : Emb) (S : St) (w : World) : Prop where
  below : Below W.heap.size W w
  base : ∀ i, i < W.heap.size → φ i = some ⟨i, 0, 0, 0⟩
  lockN : W.heap.size ≤ S.lock
  ok : Ok S
  deadB : ∀ i, i < W.heap.size → S.heap i = .dead
  blk : ∀ i L, φ i = some L → W.heap.size ≤ i → W.heap.size ≤ L.blk ∧ L.blk < w.heap.size ∧ BRel W.heap.size φ w L (S.heap i)
  inj : ∀ i j Li Lj, φ i = some Li → φ j = some Lj → W.heap.size ≤ i → W.heap.size ≤ j → i ≠ j → S.heap i ≠ .dead → S.heap j ≠ .dead → Li.blk ≠ Lj.blk

/-- A block of the world that a step from S on may write. -/
def Touch (φ : Emb) (S : St) (b : Nat) : Prop := ∃ i L, φ i = some L ∧ L.blk = b ∧ S.lock ≤ i ∧ S.heap i ≠ .dead

/-- What a step does to the evaluator's memory alone. -/
structure AStep (S S' : St) : Prop where
  c : S.c ≤ S'.c
  lock : S'.lock = S.lock
  keep : ∀ i, i < S.lock → S'.heap i = S.heap i
  dead : ∀ i, i < S.c → S.heap i = .dead → S'.heap i = .dead
  deadC : ∀ i, S'.c ≤ i → S'.heap i = S.heap i

structure Post (W : World) (φ : Emb) (S : St) (w : World) (φ' : Emb) (S' : St) (w' : World) : Prop where
  ext : ELe φ φ'
  rel : Rel W φ' S' w'
  dom : ∀ i L, φ' i = some L → φ i = some L ∨ (S.c ≤ i ∧ i < S'.c)
  size : w.heap.size ≤ w'.heap.size
  f1 : ∀ b, b < w.heap.size → ¬ Touch φ S b → w'.heap[b]? = w.heap[b]?
  f2 : ∀ b, b < w.heap.size → Touch φ' S' b → Touch φ S b

def Free (φ : Emb) (c c' : Nat) : Prop := ∀ i, c ≤ i → i < c' → φ i = none

theorem AStep.refl (S : St) : AStep S S := ⟨Nat.le_refl _, rfl, fun _ _ => rfl, fun _ _ h => h, fun _ _ => rfl⟩
theorem AStep.trans {a b c : St} (h : AStep a b) (k : AStep b c) : AStep a c :=
  ⟨Nat.le_trans h.c k.c, k.lock.trans h.lock, fun i hi => (k.keep i (h.lock ▸ hi)).trans (h.keep i hi), fun i hi hd => k.dead i (Nat.lt_of_lt_of_le hi h.c) (h.dead i hi hd),
    fun i hi => (k.deadC i hi).trans (h.deadC i (Nat.le_trans k.c hi))⟩
theorem AStep.ok {S S' : St} (h : AStep S S') (k : Ok S) : Ok S' :=
  ⟨by rw [h.lock]; exact Nat.le_trans k.1 h.c, fun i hi => (h.deadC i hi).trans (k.2 i (Nat.le_trans h.c hi))⟩
theorem AStep.new (S : St) (o : AObj) (h : S.lock ≤ S.c) : AStep S (S.new o) :=
  ⟨Nat.le_succ _, rfl, fun i hi => if_neg (by omega), fun i hi hd => by show (if i = S.c then o else S.heap i) = _; rw [if_neg (by omega)]; exact hd, fun i hi => if_neg (by have : S.c + 1 ≤ i := hi; omega)⟩
theorem AStep.upd (S : St) (i : Nat) (o : AObj) (ok : Ok S) (h : S.lock ≤ i) (hd : S.heap i ≠ .dead) : AStep S (S.upd i o) :=
  have hc : i < S.c := Nat.lt_of_not_le fun hh => hd (ok.2 i hh)
  ⟨Nat.le_refl _, rfl, fun j hj => if_neg (by omega), fun j hj hh => by show (if j = i then o else S.heap j) = _; rw [if_neg (fun e : j = i => hd (by rw [← e]; exact hh))]; exact hh, fun j hj => if_neg (by have : S.c ≤ j := hj; omega)⟩

section
variable {W : World} {φ φ' φ'' : Emb} {S S' S'' : St} {w w' w'' : World}

theorem Post.refl (h : Rel W φ S w) : Post W φ S w φ S w := ⟨ELe.refl φ, h, fun _ _ e => .inl e, Nat.le_refl _, fun _ _ _ => rfl, fun _ _ h => h⟩
theorem Post.trans (h : Post W φ S w φ' S' w') (hc : S.c ≤ S'.c) (hc' : S'.c ≤ S''.c) (k : Post W φ' S' w' φ'' S'' w'') : Post W φ S w φ'' S'' w'' := by
  refine ⟨ELe.trans h.ext k.ext, k.rel, ?_, Nat.le_trans h.size k.size, ?_, ?_⟩
  · intro i L e
    rcases k.dom i L e with e | ⟨a, b⟩
    · rcases h.dom i L e with e | ⟨a, b⟩
      · exact .inl e
      · exact .inr ⟨a, Nat.lt_of_lt_of_le b hc'⟩
    · exact .inr ⟨Nat.le_trans hc a, b⟩
  · intro b hb ht
    rw [k.f1 b (Nat.lt_of_lt_of_le hb h.size) (fun t => ht (h.f2 b hb t))]
    exact h.f1 b hb ht
  · exact fun b hb t => h.f2 b hb (k.f2 b (Nat.lt_of_lt_of_le hb h.size) t)

theorem Rel.cell_old (h : Rel W φ S w) {a : Addr} (ha : a.block < W.heap.size) : w.cell? a = W.cell? a := h.below.cell ha
theorem oldV_rel (h : Rel W φ S w) {v : Value} (hv : oldV W v = true) : VRel W.heap.size φ v v := by
  cases v with
  | pointer a =>
    cases a with
    | none => exact .nilPtr
    | some a =>
      have hv := of_decide_eq_true hv
      exact .ptr ⟨_, h.base _ hv, rfl, by simp, rfl, fun hh => absurd hv (by omega)⟩
  | slice a l c =>
    cases a with
    | none => exact .nilSl _ _
    | some a =>
      have hv := of_decide_eq_true hv
      exact .sl ⟨_, h.base _ hv, rfl, rfl, fun hh => absurd hv (by omega), .inl ⟨rfl, rfl, by simp⟩⟩
  | map r =>
    cases r with
    | none => exact .nilMap
    | some r =>
      have hv := of_decide_eq_true hv
      exact .map (h.base r hv) rfl
  | _ => exact flat0_refl (by simpa [oldV] using hv)
end
end Go.Proofs.YtnnajiaaakkjfaaDoor.E
