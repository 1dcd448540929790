/- Slices that may grow, whatever they began as. -/
import Derived.Test.YtnnajiaaakkjfaaDoorE23
namespace Go.Proofs.YtnnajiaaakkjfaaDoor.E
open Go Go.RowKit
set_option linter.unusedVariables false

section
variable {P : Program} {W : World} {S S' : St}
def Gr (S : St) (v : Value) (sz : Nat) (cs : List Value) : Prop :=
  Own S v sz cs ∨ ∃ b n, v = .slice (some ⟨b, 0, none⟩) n n ∧ S.lock ≤ b ∧ S.heap b = .row cs 0 ∧ n * sz = cs.length ∧ 0 < n
theorem Gr.keep {v : Value} {sz : Nat} {cs : List Value} {D : List Nat} (h : Gr S v sz cs) (e : Ext D S S') (hd : ∀ i, i ∈ blkOf v → i ∉ D) (ok : Ok S) : Gr S' v sz cs := by
  rcases h with h | ⟨b, n, rfl, h1, h2, h3, h4⟩
  · exact .inl (h.keep e hd ok)
  · exact .inr ⟨b, n, rfl, by rw [e.lock]; exact h1, by rw [e.same b (row_lt ok h2) (hd b (by simp [blkOf]))]; exact h2, h3, h4⟩
theorem Gr.lt {v : Value} {sz : Nat} {cs : List Value} (h : Gr S v sz cs) (ok : Ok S) : ∀ i, i ∈ blkOf v → i < S.c := by
  rcases h with (⟨rfl, h⟩ | ⟨b, n, c, pre, rfl, h1, h2, h3, h4⟩) | ⟨b, n, rfl, h1, h2, h3, h4⟩ <;> intro i hi <;> simp [blkOf] at hi <;> subst hi <;> exact row_lt ok h2
theorem Gr.form {v : Value} {sz : Nat} {cs : List Value} (h : Gr S v sz cs) (hp : 0 < sz) {n : Nat} (hn : n * sz = cs.length) : ∃ a c, v = .slice a n c := by
  rcases h with (⟨rfl, rfl⟩ | ⟨b, m, c, pre, rfl, h1, h2, h3, h4⟩) | ⟨b, m, rfl, h1, h2, h3, h4⟩
  · have : n = 0 := by
      rcases Nat.eq_zero_or_pos n with h | h
      · exact h
      · have := Nat.mul_pos h hp; simp at hn; omega
    exact ⟨none, 0, by rw [this]⟩
  · exact ⟨_, c, by rw [Nat.eq_of_mul_eq_mul_right hp (h3.trans hn.symm)]⟩
  · have := Nat.eq_of_mul_eq_mul_right hp (h3.trans hn.symm)
    exact ⟨_, m, by rw [← this]⟩
/-- The cells, read one by one. -/
theorem Gr.get {v : Value} {sz : Nat} {cs : List Value} (h : Gr S v sz cs) (g : Gd W S) (hp : 0 < sz) {n : Nat} (hn : n * sz = cs.length) (h0 : 0 < n) :
    ∃ b o c, v = .slice (some ⟨b, o, none⟩) n c ∧ W.heap.size ≤ b ∧ (∀ j, j < cs.length → S.cell W ⟨b, o + j, none⟩ = cs[j]?) ∧ (∀ j m, 0 < m → j + m ≤ cs.length → S.cells W ⟨b, o + j, none⟩ m = some ((cs.drop j).take m)) := by
  rcases h with (⟨rfl, rfl⟩ | ⟨b, m, c, pre, rfl, h1, h2, h3, h4⟩) | ⟨b, m, rfl, h1, h2, h3, h4⟩
  · have := Nat.mul_pos h0 hp; simp at hn; omega
  · have := Nat.eq_of_mul_eq_mul_right hp (h3.trans hn.symm)
    subst this
    have hW : W.heap.size ≤ b := Nat.le_trans g.lock h1
    refine ⟨b, pre.length, c, rfl, hW, fun j hj => ?_, fun j m h0 hj => ?_⟩
    · rw [cell_at hW, h2, cellOf_row, nth_eq, List.getElem?_append_right (by omega)]
      congr 1; omega
    · rw [cells_at hW _ h0, h2, cellsOf_row, if_pos (by rw [List.length_append]; omega), ← List.drop_drop, List.drop_left]
  · have := Nat.eq_of_mul_eq_mul_right hp (h3.trans hn.symm)
    subst this
    have hW : W.heap.size ≤ b := Nat.le_trans g.lock h1
    refine ⟨b, 0, m, rfl, hW, fun j hj => ?_, fun j m h0 hj => ?_⟩
    · rw [cell_at hW, h2, cellOf_row, nth_eq, Nat.zero_add]
    · rw [cells_at hW _ h0, h2, cellsOf_row, Nat.zero_add, if_pos hj]
theorem append_gr (g : Gd W S) {st xt e : TypeId} {z : Value} {sz by_ : Nat} (E : Elem P st e z sz by_) {v : Value} {cs : List Value} (h : Gr S v sz cs) {x : Value} {n : Nat} {new : List Value} (hx : SrcIs P W S xt sz z x n new) (hn : new.length = n * sz) (hst : new.all storable = true) (hcl : new.all (vlt1 S.c) = true)
    {len : Nat} (hl : cs.length = len * sz) (hb : (len + n + (len + n) / 4 + 512) * by_ ≤ 2 ^ 48) :
    ∃ v' S', aBuiltin P W S .append #[st, xt] #[v, x] = some (v', S') ∧ Gr S' v' sz (cs ++ new) ∧ Ext (blkOf v) S S' ∧ (∀ i, i ∈ blkOf v' → i ∈ blkOf v ∨ S.c ≤ i) := by
  rcases h with h | ⟨b, m, rfl, h1, h2, h3, h4⟩
  · obtain ⟨v', S', a1, a2, a3, a4⟩ := append_own g E h hx hn hst hcl hl hb
    exact ⟨v', S', a1, .inl a2, a3, fun i hi => .inr (a4 i hi)⟩
  · obtain ⟨ie, i1, i2, i3, i4⟩ := E.info
    have hx : srcOf P W S xt ie.size z x = some (n, new) := by rw [i3]; exact hx
    have hcond : z.cells.size = ie.size ∧ 0 < ie.size ∧ 0 < ie.bytes ∧ flat z = true := ⟨E.zsz.trans i3.symm, by rw [i3]; exact E.pos, by rw [i4]; exact E.bpos, E.flat⟩
    have hm : m = len := Nat.eq_of_mul_eq_mul_right E.pos (h3.trans hl)
    subst hm
    have hW : W.heap.size ≤ b := Nat.le_trans g.lock h1
    have hfx : S.fx W ⟨b, 0, none⟩ = some 0 := fx_row hW h2
    have a0 : (#[Value.slice (some ⟨b, 0, none⟩) m m, x] : Array Value)[0]? = some (.slice (some ⟨b, 0, none⟩) m m) := rfl
    have a1 : (#[Value.slice (some ⟨b, 0, none⟩) m m, x] : Array Value)[1]? = some x := rfl
    have hput : S.put ((⟨b, 0, none⟩ : Addr).add (m * ie.size)) [] = some S := rfl
    by_cases h0 : n = 0
    · subst h0
      have : new = [] := List.eq_nil_of_length_eq_zero (by rw [hn]; omega)
      subst this
      refine ⟨.slice (some ⟨b, 0, none⟩) m m, S, ?_, by rw [List.append_nil]; exact .inr ⟨b, m, rfl, h1, h2, h3, h4⟩, Ext.refl g.ok, fun i hi => .inl hi⟩
      show aAppend P W S #[st, xt] #[.slice (some ⟨b, 0, none⟩) m m, x] = _
      unfold aAppend
      simp only [a0, a1, List.getElem?_toArray, List.getElem?_cons_zero, List.getElem?_cons_succ, E.und, i1, i2, if_pos hcond, hx]
      rw [if_pos (by rw [i4]; exact hb)]
      rw [if_neg (by rw [isZ_none]; exact Bool.false_ne_true)]
      simp only [hfx, hput]
      rw [if_pos (by omega)]
      rfl
    · have hcells : S.cells W ⟨b, 0, none⟩ (m * ie.size) = some cs := by
        rw [i3, h3]; exact cells_all hW h2
      refine ⟨.slice (some ⟨S.c, 0, none⟩) (m + n) (m + n), S.new (.row (cs ++ new) ie.size), ?_, .inl (.inr ⟨S.c, m + n, m + n, [], rfl, g.ok.1, by rw [new_self, i3]; rfl, by rw [Nat.add_mul, List.length_append, ← hn, h3], Nat.le_refl _⟩), Ext.new g.ok (objLt_mono (Nat.le_succ _) (by have hr := g.cl b (row_lt g.ok h2); rw [h2] at hr; rw [objLt_row] at hr ⊢; rw [List.all_append, hr, hcl]; rfl)), fun i hi => by simp [blkOf] at hi; omega⟩
      show aAppend P W S #[st, xt] #[.slice (some ⟨b, 0, none⟩) m m, x] = _
      unfold aAppend
      simp only [a0, a1, List.getElem?_toArray, List.getElem?_cons_zero, List.getElem?_cons_succ, E.und, i1, i2, if_pos hcond, hx]
      rw [if_pos (by rw [i4]; exact hb)]
      rw [if_neg (by rw [isZ_none]; exact Bool.false_ne_true)]
      simp only [hfx, hcells]
      rw [if_neg (by omega)]
end
end Go.Proofs.YtnnajiaaakkjfaaDoor.E
