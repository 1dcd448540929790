/- What the evaluator's steps on memory are in a world. -/
import Derived.Test.YtnnajiaaakkjfaaDoorE2
import Derived.Laws.Sem
namespace Go.Proofs.YtnnajiaaakkjfaaDoor.E
open Go Go.RowKit
set_option linter.unusedVariables false

theorem still_run {P : Program} {α : Type} : ∀ {m : Sem α} {a : α} (w : World), still P m = some a → m.run P w = .ok a w
  | .pure _, _, w, h => by simp only [still, Option.some.injEq] at h; subst h; rfl
  | .program k, _, w, h => by simp only [still] at h; simp only [Sem.run]; exact still_run w h
  | .mark _ k, _, w, h => by simp only [still] at h; simp only [Sem.run]; exact still_run w h
  | .load .., _, _, h => by simp [still] at h
  | .store .., _, _, h => by simp [still] at h
  | .new .., _, _, h => by simp [still] at h
  | .shape .., _, _, h => by simp [still] at h
  | .freeze .., _, _, h => by simp [still] at h
  | .frozen .., _, _, h => by simp [still] at h
  | .getObj .., _, _, h => by simp [still] at h
  | .setObj .., _, _, h => by simp [still] at h
  | .choose .., _, _, h => by simp [still] at h
  | .sys .., _, _, h => by simp [still] at h
  | .halt .., _, _, h => by simp [still] at h

theorem still_bind {P : Program} {α β : Type} (m : Sem α) (f : α → Sem β) : still P (m >>= f) = (still P m).bind fun a => still P (f a) := by
  show still P (m.bind f) = _
  induction m with
  | program k ih => simp only [Sem.bind, still]; exact ih P
  | mark _ k ih => simp only [Sem.bind, still]; exact ih
  | _ => rfl
theorem still_pure {P : Program} {α : Type} (a : α) : still P (pure a : Sem α) = some a := rfl
theorem run_bind_ok {P : Program} {α β : Type} {m : Sem α} {f : α → Sem β} {w w' : World} {a : α} (h : m.run P w = .ok a w') : (m >>= f).run P w = (f a).run P w' := by
  rw [Sem.run_bind, h]; rfl
theorem runPure {P : Program} {α : Type} (a : α) (w : World) : (pure a : Sem α).run P w = .ok a w := rfl

theorem runLoad {P : Program} {w : World} {a : Addr} {v : Value} (h : w.cell? a = some v) : (load a).run P w = .ok v w := by
  simp only [Go.load, Sem.run, h]
theorem runLoadCellsFrom {P : Program} {w : World} {a : Addr} : ∀ (l : List Value) (i : Nat) (acc : Array Value),
    (∀ (j : Nat) (v : Value), l[j]? = some v → w.cell? (a.add (i + j)) = some v) → (loadCellsFrom a i l.length acc).run P w = .ok (acc ++ l.toArray) w
  | [], i, acc, h => by simp [loadCellsFrom]
  | v :: l, i, acc, h => by
    simp only [List.length_cons, loadCellsFrom]
    rw [run_bind_ok (runLoad (by simpa using h 0 v (by simp))), runLoadCellsFrom l (i + 1) _ (fun j u e => by have := h (j + 1) u (by simpa using e); rwa [show i + 1 + j = i + (j + 1) by omega])]
    simp
theorem runLoadCells {P : Program} {w : World} {a : Addr} {l : List Value} {n : Nat} (hn : l.length = n) (h : ∀ (j : Nat) (v : Value), l[j]? = some v → w.cell? (a.add j) = some v) : (loadCells a n).run P w = .ok l.toArray w := by
  subst hn
  rw [loadCells, runLoadCellsFrom l 0 #[] (fun j v e => by rw [Nat.zero_add]; exact h j v e)]
  simp

section
variable {W : World} {φ : Emb} {S : St} {w : World}

theorem add_block (a : Addr) (n : Nat) : (a.add n).block = a.block := by unfold Addr.add; split <;> rfl
theorem add_off (a : Addr) (n : Nat) : (a.add n).off = a.off + n := by unfold Addr.add; split <;> simp_all
theorem add_spot (a : Addr) (n : Nat) : (a.add n).spot = if n = 0 then a.spot else none := by unfold Addr.add; split <;> simp_all
theorem ARel.add {N : Nat} {a a' : Addr} (h : ARel N φ a a') (n : Nat) : ARel N φ (a.add n) (a'.add n) := by
  obtain ⟨L, h1, h2, h3, h4, h5⟩ := h
  refine ⟨L, by rw [add_block]; exact h1, by rw [add_block]; exact h2, by rw [add_off, add_off, h3]; omega, by rw [add_spot, add_spot, h4], fun hh => ?_⟩
  rw [add_block] at hh
  rw [add_spot, h5 hh]
  split <;> rfl
theorem ARel.old (h : Rel W φ S w) {a a' : Addr} (k : ARel W.heap.size φ a a') (ha : a.block < W.heap.size) : a' = a := by
  obtain ⟨L, h1, h2, h3, h4, h5⟩ := k
  rw [h.base _ ha] at h1
  cases h1
  cases a; cases a'
  simp_all
theorem cell_row {w : World} {b : Nat} {C : Array Value} {e : TypeId} {fr : Nat × Nat} (h : w.heap[b]? = some (.cells C e fr)) (o : Nat) : w.cell? ⟨b, o, none⟩ = C[o]? := by
  unfold World.cell?
  simp [h]

theorem oldCells_spec {a : Addr} : ∀ (n i : Nat) (l : List Value), oldCells W a i n = some l → l.length = n ∧ ∀ (j : Nat) (v : Value), l[j]? = some v → W.cell? (a.add (i + j)) = some v ∧ oldV W v = true
  | 0, i, l, h => by simp only [oldCells, Option.some.injEq] at h; subst h; exact ⟨rfl, fun j v e => by simp at e⟩
  | n + 1, i, l, h => by
    simp only [oldCells] at h
    split at h
    · rename_i v hv
      split at h
      · rename_i ho
        split at h
        · rename_i r hr
          cases h
          obtain ⟨h1, h2⟩ := oldCells_spec n (i + 1) r hr
          refine ⟨by simp [h1], fun j u e => ?_⟩
          cases j with
          | zero => simp at e; subst e; exact ⟨hv, ho⟩
          | succ j => have := h2 j u (by simpa using e); rwa [show i + 1 + j = i + (j + 1) by omega] at this
        · cases h
      · cases h
    · cases h

/-- Cells that the evaluator reads are there in the world. -/
theorem cells_sound (h : Rel W φ S w) {a a' : Addr} (k : ARel W.heap.size φ a a') {n : Nat} {l : List Value} (e : S.cells W a n = some l) :
    ∃ l', LRel W.heap.size φ l l' ∧ l.length = n ∧ ∀ (j : Nat) (v : Value), l'[j]? = some v → w.cell? (a'.add j) = some v := by
  unfold St.cells at e
  split at e
  · cases e; exact ⟨[], LRel.nil, by simp_all, fun j v e => by simp at e⟩
  split at e
  · rename_i _ ha
    obtain ⟨h1, h2⟩ := oldCells_spec _ _ _ e
    have ea := k.old h ha
    subst ea
    refine ⟨l, ⟨rfl, fun i v hv => ⟨v, hv, oldV_rel h (h2 i v hv).2⟩⟩, h1, fun j v hv => ?_⟩
    rw [h.cell_old (by rw [add_block]; exact ha)]
    have := (h2 j v hv).1
    rwa [Nat.zero_add] at this
  · rename_i _ ha
    split at e
    · rename_i cs kk hh
      split at e
      · rename_i hle
        cases e
        obtain ⟨L, k1, k2, k3, k4, k5⟩ := k
        obtain ⟨b1, b2, b3⟩ := h.blk _ L k1 (by omega)
        rw [hh] at b3
        obtain ⟨C, ee, fr, c1, c2, c3, c4, c5, c6⟩ := b3
        have hsp := k5 (by omega)
        refine ⟨(C.toList.drop (L.off + a.off)).take n, ⟨?_, fun i v hv => ?_⟩, ?_, fun j v hv => ?_⟩
        · simp only [List.length_take, List.length_drop, Array.length_toList]; omega
        · rw [List.getElem?_take] at hv ⊢
          split at hv
          · rename_i hi
            rw [if_pos hi]
            rw [List.getElem?_drop] at hv ⊢
            obtain ⟨v', d1, d2⟩ := c6 _ _ hv
            refine ⟨v', ?_, d2⟩
            rw [Array.getElem?_toList]
            rwa [show L.off + a.off + i = L.off + (a.off + i) by omega]
          · cases hv
        · simp only [List.length_take, List.length_drop]; omega
        · rw [List.getElem?_take] at hv
          split at hv
          · rw [List.getElem?_drop, Array.getElem?_toList] at hv
            have : a'.add j = ⟨L.blk, L.off + a.off + j, none⟩ := by
              cases a' with
              | mk x y z =>
                simp only at k2 k3 k4
                subst k2 k3
                rw [k4, hsp]
                unfold Addr.add
                split
                · rename_i hj; subst hj; rfl
                · rfl
            rw [this, cell_row c1]
            exact hv
          · cases hv
      · cases e
    · cases e
theorem cell_sound (h : Rel W φ S w) {a a' : Addr} (k : ARel W.heap.size φ a a') {v : Value} (e : S.cell W a = some v) :
    ∃ v', VRel W.heap.size φ v v' ∧ w.cell? a' = some v' := by
  unfold St.cell at e
  split at e
  · rename_i ha
    split at e
    · rename_i u hu
      split at e
      · rename_i ho
        cases e
        have ea := k.old h ha
        subst ea
        exact ⟨v, oldV_rel h ho, by rw [h.cell_old ha]; exact hu⟩
      · cases e
    · cases e
  · rename_i ha
    split at e
    · rename_i cs kk hh
      obtain ⟨L, k1, k2, k3, k4, k5⟩ := k
      obtain ⟨b1, b2, b3⟩ := h.blk _ L k1 (by omega)
      rw [hh] at b3
      obtain ⟨C, ee, fr, c1, c2, c3, c4, c5, c6⟩ := b3
      have hsp := k5 (by omega)
      obtain ⟨v', d1, d2⟩ := c6 _ _ e
      refine ⟨v', d2, ?_⟩
      cases a' with
      | mk x y z =>
        simp only at k2 k3 k4
        subst k2 k3
        rw [k4, hsp, cell_row c1]
        exact d1
    · cases e
end
end Go.Proofs.YtnnajiaaakkjfaaDoor.E
