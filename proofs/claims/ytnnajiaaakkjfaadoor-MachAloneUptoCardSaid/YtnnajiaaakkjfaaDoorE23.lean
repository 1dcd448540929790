/- Rows of things of one breadth. -/
import Derived.Test.YtnnajiaaakkjfaaDoorE22
namespace Go.Proofs.YtnnajiaaakkjfaaDoor.E
open Go Go.RowKit
set_option linter.unusedVariables false

/-- How a thing lies: k cells each. -/
structure Enc (α : Type) where
  cs : α → List Value
  k : Nat
  pos : 0 < k
  len : ∀ a, (cs a).length = k
  st : ∀ a, (cs a).all storable = true
section
variable {α : Type} (T : Enc α)
def Enc.fl (l : List α) : List Value := l.flatMap T.cs
@[simp] theorem fl_nil : T.fl [] = [] := rfl
theorem fl_cons (a : α) (l : List α) : T.fl (a :: l) = T.cs a ++ T.fl l := rfl
theorem fl_app (l m : List α) : T.fl (l ++ m) = T.fl l ++ T.fl m := by unfold Enc.fl; rw [List.flatMap_append]
theorem fl_one (a : α) : T.fl [a] = T.cs a := by unfold Enc.fl; simp
theorem fl_len (l : List α) : (T.fl l).length = l.length * T.k := by
  induction l with
  | nil => simp
  | cons a l ih => rw [fl_cons, List.length_append, ih, T.len, List.length_cons, Nat.add_mul]; omega
theorem fl_st (l : List α) : (T.fl l).all storable = true := by
  induction l with
  | nil => rfl
  | cons a l ih => rw [fl_cons, List.all_append, T.st, ih]; rfl
theorem fl_at : ∀ (l : List α) (i : Nat) (h : i < l.length), ((T.fl l).drop (i * T.k)).take T.k = T.cs l[i]
  | a :: l, 0, _ => by
    rw [fl_cons, Nat.zero_mul, List.drop_zero, List.take_append_of_le_length (by rw [T.len]; exact Nat.le_refl _), List.take_of_length_le (by rw [T.len]; exact Nat.le_refl _)]
    rfl
  | a :: l, i + 1, h => by
    rw [fl_cons, show (i + 1) * T.k = (T.cs a).length + i * T.k by rw [T.len, Nat.add_mul]; omega, ← List.drop_drop, List.drop_left]
    exact fl_at l i (Nat.lt_of_succ_lt_succ h)
end

section
variable {α : Type} {T : Enc α} {P : Program} {W : World} {S S' : St}
/-- A slice of one's own with these things. -/
def Sl (T : Enc α) (S : St) (v : Value) (l : List α) : Prop := Own S v T.k (T.fl l)
theorem sl_nil : Sl T S (.slice none 0 0) [] := own_nil
theorem Sl.keep {v : Value} {l : List α} {D : List Nat} (h : Sl T S v l) (e : Ext D S S') (hd : ∀ i, i ∈ blkOf v → i ∉ D) (ok : Ok S) : Sl T S' v l := Own.keep h e hd ok
theorem Sl.lt {v : Value} {l : List α} (h : Sl T S v l) (ok : Ok S) : ∀ i, i ∈ blkOf v → i < S.c := by
  rcases h with ⟨rfl, h⟩ | ⟨b, n, c, pre, rfl, h1, h2, h3, h4⟩
  · intro i hi; simp [blkOf] at hi
  · intro i hi; simp [blkOf] at hi; subst hi; exact row_lt ok h2
theorem Sl.form {v : Value} {l : List α} (h : Sl T S v l) : ∃ a c, v = .slice a l.length c := by
  rcases h with ⟨rfl, h⟩ | ⟨b, n, c, pre, rfl, h1, h2, h3, h4⟩
  · have := congrArg List.length h
    rw [fl_len] at this
    have hl : l.length = 0 := by
      rcases Nat.eq_zero_or_pos l.length with h | h
      · exact h
      · have := Nat.mul_pos h T.pos; simp at *; omega
    exact ⟨none, 0, by rw [hl]⟩
  · rw [fl_len] at h3
    have := Nat.eq_of_mul_eq_mul_right T.pos h3
    exact ⟨_, c, by rw [this]⟩
/-- Where the things lie. -/
theorem Sl.get {v : Value} {l : List α} (h : Sl T S v l) (g : Gd W S) (hl : 0 < l.length) :
    ∃ b o c, v = .slice (some ⟨b, o, none⟩) l.length c ∧ l.length ≤ c ∧ W.heap.size ≤ b ∧ S.lock ≤ b ∧ b < S.c ∧ S.fx W ⟨b, o, none⟩ = some T.k ∧
      (∀ i, (hi : i < l.length) → S.cells W ⟨b, o + i * T.k, none⟩ T.k = some (T.cs l[i]) ∧ ∀ j, j < T.k → S.cell W ⟨b, o + i * T.k + j, none⟩ = nth (T.cs l[i]) j) := by
  rcases h with ⟨rfl, h⟩ | ⟨b, n, c, pre, rfl, h1, h2, h3, h4⟩
  · have := congrArg List.length h
    rw [fl_len] at this
    have := Nat.mul_pos hl T.pos; simp at *; omega
  · rw [fl_len] at h3
    have hn := Nat.eq_of_mul_eq_mul_right T.pos h3
    subst hn
    have hW : W.heap.size ≤ b := Nat.le_trans g.lock h1
    have key : ∀ i, (hi : i < l.length) → ((pre ++ T.fl l).drop (pre.length + i * T.k)).take T.k = T.cs l[i] := fun i hi => by
      rw [← List.drop_drop, List.drop_left]
      exact fl_at T l i hi
    refine ⟨b, pre.length, c, rfl, h4, hW, h1, row_lt g.ok h2, fx_row hW h2, fun i hi => ⟨?_, fun j hj => ?_⟩⟩
    · rw [cells_at hW _ T.pos, h2, cellsOf_row, if_pos, key i hi]
      rw [List.length_append, fl_len]
      have := Nat.mul_le_mul_right T.k (Nat.succ_le_of_lt hi)
      rw [Nat.succ_mul] at this
      omega
    · rw [cell_at hW, h2, cellOf_row, nth_eq, nth_eq, ← key i hi, List.getElem?_take_of_lt hj, List.getElem?_drop]
theorem Sl.tail {a : α} {l : List α} {b o n c : Nat} (h : Sl T S (.slice (some ⟨b, o, none⟩) n c) (a :: l)) : Sl T S (.slice (some ⟨b, o + T.k, none⟩) (n - 1) (c - 1)) l := by
  rcases h with ⟨h0, h⟩ | ⟨b', n', c', pre, hv, h1, h2, h3, h4⟩
  · cases h0
  · obtain ⟨rfl, rfl, rfl, rfl⟩ : b = b' ∧ o = pre.length ∧ n = n' ∧ c = c' := by
      injection hv with e1 e2 e3
      injection e1 with e1
      injection e1 with e1 e4
      exact ⟨e1, e4, e2, e3⟩
    rw [fl_cons, List.length_append, T.len, fl_len] at h3
    have hn : n = l.length + 1 := Nat.eq_of_mul_eq_mul_right T.pos (by rw [h3, Nat.add_mul]; omega)
    subst hn
    refine .inr ⟨b, l.length, c - 1, pre ++ T.cs a, by rw [List.length_append, T.len]; rfl, h1, ?_, by rw [fl_len], by omega⟩
    rw [h2, fl_cons, List.append_assoc]
theorem slice_tail {t e : TypeId} (hu : P.underlying t = some (.slice e)) (hs : szOf P e = some T.k) {b o n c : Nat} (h1 : 1 ≤ n) (h2 : n ≤ c) (hf : S.fx W ⟨b, o, none⟩ = some T.k) :
    aSlice P W S t (.slice (some ⟨b, o, none⟩) n c) (some (.int .i64 1)) none none = some (.slice (some ⟨b, o + T.k, none⟩) (n - 1) (c - 1)) := by
  have hb : aBounds n c (some (.int .i64 1)) none none = some (1, n, c) := by
    have e1 : bnd (some (.int .i64 1)) 0 n = some 1 := by
      show (if (0 : Int) ≤ 1 ∧ (1 : Int) ≤ (n : Int) then some (Int.toNat 1) else none) = some 1
      rw [if_pos ⟨by omega, by omega⟩]; rfl
    have e2 : bnd none c c = some c := rfl
    simp only [aBounds, e2, if_pos h2, e1]
  have hk : T.k ≠ 0 := Nat.pos_iff_ne_zero.1 T.pos
  simp only [aSlice, isZ_none, Bool.false_eq_true, if_false, hu, hs, hf, hb]
  rw [if_pos (Or.inr trivial), if_neg (by simp), if_neg (by simp [hk]), Nat.one_mul, add_mk]
/-- Growth by a row of things. -/
theorem Sl.append (g : Gd W S) {st xt e : TypeId} {z : Value} {by_ : Nat} (E : Elem P st e z T.k by_) {v : Value} {l new : List α} (h : Sl T S v l) {x : Value} (hx : SrcIs P W S xt T.k z x new.length (T.fl new)) (hcl : (T.fl new).all (vlt1 S.c) = true)
    (hb : (l.length + new.length + (l.length + new.length) / 4 + 512) * by_ ≤ 2 ^ 48) :
    ∃ v' S', aBuiltin P W S .append #[st, xt] #[v, x] = some (v', S') ∧ Sl T S' v' (l ++ new) ∧ Ext (blkOf v) S S' ∧ (∀ i, i ∈ blkOf v' → S.c ≤ i) := by
  obtain ⟨v', S', h1, h2, h3, h4⟩ := append_own g E h hx (fl_len T new) (fl_st T new) hcl (len := l.length) (fl_len T l) hb
  exact ⟨v', S', h1, by unfold Sl; rw [fl_app]; exact h2, h3, h4⟩
end
end Go.Proofs.YtnnajiaaakkjfaaDoor.E
