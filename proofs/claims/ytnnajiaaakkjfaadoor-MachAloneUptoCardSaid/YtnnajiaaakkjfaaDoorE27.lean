/- What came in: slices of flat things that were there, and how they read. -/
import Derived.Test.YtnnajiaaakkjfaaDoorE26
import Derived.Deep.Slices
import Derived.Deep.Fields
import Derived.ChangeSame
import Derived.SizedLaws
import Derived.WalkKit
import Derived.ProofKit
namespace Go.Proofs.YtnnajiaaakkjfaaDoor.E
open Go Go.RowKit Go.Deep Go.ChangeShapes Go.WideShapes
set_option linter.unusedVariables false

section
variable {P : Program} {W : World} {S : St} {α : Type} {T : Enc α}
theorem flat0_old {v : Value} (h : flat0 v = true) : oldV W v = true := by
  unfold oldV
  split
  · cases h
  · cases h
  · cases h
  · exact h
def OldSl (T : Enc α) (W : World) (v : Value) (l : List α) : Prop :=
  (v = .slice none 0 0 ∧ l = []) ∨ ∃ b o c, v = .slice (some ⟨b, o, none⟩) l.length c ∧ b < W.heap.size ∧ l.length ≤ c ∧ ∀ j, (h : j < l.length) → ∀ i, i < T.k → W.cell? ⟨b, o + j * T.k + i, none⟩ = nth (T.cs l[j]) i
theorem OldSl.old {v : Value} {l : List α} (h : OldSl T W v l) : oldArg W v = true := by
  rcases h with ⟨rfl, _⟩ | ⟨b, o, c, rfl, h1, _⟩
  · rfl
  · exact decide_eq_true h1
theorem OldSl.form {v : Value} {l : List α} (h : OldSl T W v l) : ∃ a c, v = .slice a l.length c := by
  rcases h with ⟨rfl, rfl⟩ | ⟨b, o, c, rfl, _⟩
  · exact ⟨none, 0, rfl⟩
  · exact ⟨_, c, rfl⟩
theorem oldCells_nth {a : Addr} {l : List Value} (hf : l.all flat0 = true) (h : ∀ i, i < l.length → W.cell? (a.add i) = nth l i) : ∀ (m k : Nat), m + k = l.length → oldCells W a k m = some (l.drop k)
  | 0, k, hk => by rw [List.drop_eq_nil_of_le (by omega)]; rfl
  | m + 1, k, hk => by
    have hlt : k < l.length := by omega
    rw [oldCells, h k hlt, nth_eq, List.getElem?_eq_getElem hlt]
    dsimp only
    rw [if_pos (flat0_old (List.all_eq_true.1 hf _ (List.getElem_mem hlt))), oldCells_nth hf h m (k + 1) (by omega)]
    dsimp only
    rw [List.drop_eq_getElem_cons hlt]
theorem OldSl.get (hf : ∀ a, (T.cs a).all flat0 = true) {v : Value} {l : List α} (h : OldSl T W v l) (hl : 0 < l.length) :
    ∃ b o c, v = .slice (some ⟨b, o, none⟩) l.length c ∧ l.length ≤ c ∧ b < W.heap.size ∧ (∀ S : St, S.fx W ⟨b, o, none⟩ = some 0) ∧
      ∀ (S : St) (j : Nat) (hj : j < l.length), S.cells W ⟨b, o + j * T.k, none⟩ T.k = some (T.cs l[j]) ∧ ∀ i, i < T.k → S.cell W ⟨b, o + j * T.k + i, none⟩ = nth (T.cs l[j]) i := by
  rcases h with ⟨rfl, rfl⟩ | ⟨b, o, c, rfl, h1, h2, h3⟩
  · simp at hl
  · refine ⟨b, o, c, rfl, h2, h1, fun S => fx_old h1, fun S j hj => ⟨?_, fun i hi => ?_⟩⟩
    · have hk := T.pos
      unfold St.cells
      rw [if_neg (by omega), if_pos h1]
      have := oldCells_nth (W := W) (a := ⟨b, o + j * T.k, none⟩) (hf l[j]) (fun i hi => by rw [add_mk]; exact h3 j hj i (by rw [← T.len]; exact hi)) T.k 0 (by rw [T.len]; rfl)
      rw [List.drop_zero] at this
      exact this
    · unfold St.cell
      rw [if_pos h1, h3 j hj i hi, nth_eq, List.getElem?_eq_getElem (by rw [T.len]; exact hi)]
      dsimp only
      rw [if_pos (flat0_old (List.all_eq_true.1 (hf l[j]) _ (List.getElem_mem _)))]

/-- Each value that reads at type t is a thing's cells, and right. -/
def Rf (P : Program) (t : TypeId) (enc' : α → List Value) (right : α → Prop) : Prop :=
  ∀ {H : Type} (enc : TypeId × Value → H) (w : World) (base : Nat) (spare : Nat → Bool) (held : Bool) (fuel : Nat) (cs : List Value) (y : DataW H × List MemPlace),
    DataW.trod enc P w base spare held fuel t cs = some y → (∀ n ∈ y.1.weights P t, n ≤ reachBytes) → ∃ x, cs = enc' x ∧ right x
theorem Rf.int {t : TypeId} {k : IntKind} (ht : P.underlying t = some (.int k)) : Rf P t (fun n : Int => [.int k n]) (fun n => (Lit.int k n).wf = true) := by
  intro H enc w base spare held fuel cs y h _
  cases fuel with
  | zero => simp [DataW.trod] at h
  | succ n =>
    unfold DataW.trod at h
    rw [ht] at h
    match cs, h with
    | [.int k' m], h =>
      dsimp only at h
      split at h
      · rename_i hc
        obtain ⟨rfl, hw⟩ := hc
        exact ⟨m, rfl, hw⟩
      · cases h
theorem Rf.bool {t : TypeId} (ht : P.underlying t = some .bool) : Rf P t (fun b : Bool => [.bool b]) (fun _ => True) := by
  intro H enc w base spare held fuel cs y h _
  cases fuel with
  | zero => simp [DataW.trod] at h
  | succ n =>
    unfold DataW.trod at h
    rw [ht] at h
    match cs, h with
    | [.bool b], h => exact ⟨b, rfl, trivial⟩
theorem Rf.string {t : TypeId} (ht : P.underlying t = some .string) : Rf P t (fun s : ByteArray => [.string s]) (fun s => s.size ≤ 140737488351232) := by
  intro H enc w base spare held fuel cs y h hw
  cases fuel with
  | zero => simp [DataW.trod] at h
  | succ n =>
    unfold DataW.trod at h
    rw [ht] at h
    match cs, h with
    | [.string s], h =>
      dsimp only at h
      split at h
      · injection h with h
        subst h
        refine ⟨s, rfl, ?_⟩
        have := hw s.data.toList.length (by simp [DataW.weights])
        rw [Array.length_toList] at this
        exact this
      · cases h
theorem weightsAll_mem {H : Type} {e : TypeId} : ∀ {l : List (DataW H)} {d : DataW H}, d ∈ l → ∀ n ∈ d.weights P e, n ∈ DataW.weightsAll P e l
  | a :: r, d, hd, n, hn => by
    simp only [DataW.weightsAll, List.mem_append]
    rcases List.mem_cons.1 hd with rfl | hd
    · exact .inl hn
    · exact .inr (weightsAll_mem hd n hn)
/-- An argument of slice type, as it reads and as it may be. -/
theorem old_slice {t e : TypeId} {right : α → Prop} (ht : P.underlying t = some (.slice e)) (hC : P.cellsOf e = T.k) (he : Rf P e T.cs right) {H : Type} {enc : TypeId × Value → H} {w : World} {base base' : Nat} {spare : Nat → Bool} {held : Bool} {fuel : Nat} {v : Value} {y : DataW H × List MemPlace}
    (h : DataW.trod enc P w base spare held fuel t [v] = some y) (hw : ∀ n ∈ y.1.weights P t, n ≤ reachBytes) (hv : Value.okWide P w .any base' t v) :
    ∃ l : List α, OldSl T w v l ∧ l.length * P.bytesOf e ≤ 140737488351232 ∧ ∀ x ∈ l, right x := by
  rcases open_slice ht h with ⟨h0, rfl⟩ | ⟨a, len, cap, m, n, D, Pl, h0, hb, hl, hm, hmm, rfl, hx⟩
  · simp only [List.cons.injEq, and_true] at h0
    subst h0
    exact ⟨[], .inl ⟨rfl, rfl⟩, by simp, by simp⟩
  · simp only [List.cons.injEq, and_true] at h0
    subst h0
    have hle : len ≤ m := by rw [hmm]; split <;> omega
    have hok : a.spot = none ∧ a.block < w.heap.size := by
      unfold Value.okWide at hv
      rw [ht] at hv
      dsimp only at hv
      unfold Cell.okWide at hv
      rw [ht] at hv
      dsimp only at hv
      unfold Cell.ok at hv
      rw [ht] at hv
      obtain ⟨_, _, _, hs, row, cells, hsh, _⟩ := hv
      refine ⟨hs, ?_⟩
      unfold World.shape? at hsh
      by_cases hlt : a.block < w.heap.size
      · exact hlt
      · rw [Array.getElem?_eq_none (by omega)] at hsh
        simp at hsh
    obtain ⟨b, o, sp⟩ := a
    obtain ⟨hs, hlt⟩ := hok
    dsimp only at hs hlt
    subst hs
    have hmem : ∀ i, i < len → ∀ n ∈ (D i).weights P e, n ≤ reachBytes := by
      intro i hi n hn
      refine hw n ?_
      simp only [DataW.weights, ht]
      refine List.mem_cons_of_mem _ (List.mem_append_left _ (weightsAll_mem (List.mem_map.2 ⟨i, List.mem_range.2 hi, rfl⟩) n hn))
    have hsize : len * P.bytesOf e ≤ reachBytes := by
      have := hw _ (by simp only [DataW.weights, ht]; exact List.mem_cons_self ..)
      simp only [List.length_map, List.length_range] at this
      exact Nat.le_trans (Nat.mul_le_mul_right _ (Nat.le_add_right _ _)) this
    have build : ∀ k, k ≤ len → ∃ l : List α, l.length = k ∧ ∀ (i : Nat) (hi : i < l.length), right l[i] ∧ ∀ j, j < T.k → w.cell? ⟨b, o + i * T.k + j, none⟩ = nth (T.cs l[i]) j := by
      intro k
      induction k with
      | zero => exact fun _ => ⟨[], rfl, fun i hi => by simp at hi⟩
      | succ k ih =>
        intro hk
        obtain ⟨l, hll, hf⟩ := ih (by omega)
        obtain ⟨cs', hc, ht'⟩ := hx k (by omega)
        obtain ⟨x, rfl, hr⟩ := he enc w base spare held n cs' _ ht' (hmem k (by omega))
        refine ⟨l ++ [x], by rw [List.length_append, List.length_singleton, hll], fun i hi => ?_⟩
        rcases Nat.lt_or_ge i l.length with hlt | hge
        · rw [List.getElem_append_left hlt]
          exact hf i hlt
        · have hik : i = k := by
            rw [List.length_append, List.length_singleton] at hi
            omega
          subst hik
          rw [List.getElem_append_right hge]
          simp only [List.getElem_singleton]
          refine ⟨hr, fun j hj => ?_⟩
          obtain ⟨_, hlen, hcell⟩ := World.cells?_some hc
          have := hcell j (by rw [hC]; exact hj)
          rw [hC, add_mk, add_mk] at this
          rw [this, nth_eq]
    obtain ⟨l, hll, hf⟩ := build len (Nat.le_refl _)
    subst hll
    refine ⟨l, .inr ⟨b, o, cap, rfl, hlt, hl, fun j hj => (hf j hj).2⟩, Nat.le_trans hsize (by decide), fun x hx => ?_⟩
    obtain ⟨i, hi, rfl⟩ := List.getElem_of_mem hx
    exact (hf i hi).1
/-- A struct's fields, one by one. -/
theorem rd_struct {H : Type} {enc : TypeId × Value → H} {w : World} {base : Nat} {spare : Nat → Bool} {held : Bool} {t : TypeId} {fs : Array Field} {fuel : Nat} {cs : List Value} {y : DataW H × List MemPlace}
    (ht : P.underlying t = some (.struct fs)) (h : DataW.trod enc P w base spare held fuel t cs = some y) (hw : ∀ n ∈ y.1.weights P t, n ≤ reachBytes) :
    cs.length = P.cellsOf t ∧ ∃ n, ∀ (i : Nat) (f : Field), fs[i]? = some f → ∃ z : DataW H × List MemPlace, DataW.trod enc P w base spare held n f.type ((cs.drop f.offset).take (P.cellsOf f.type)) = some z ∧ ∀ m ∈ z.1.weights P f.type, m ≤ reachBytes := by
  obtain ⟨xs, n, _, rfl, hl, hlen, hf⟩ := DataW.trod_struct ht h
  refine ⟨hl, n, fun i f hi => ?_⟩
  have hlt : i < xs.length := by rw [hlen]; exact (Array.getElem?_eq_some_iff.1 hi).1
  refine ⟨xs[i], by rw [hf i f hi, List.getElem?_eq_getElem hlt], fun m hm => hw m ?_⟩
  simp only [DataW.weights, ht]
  exact DataW.weights_mem_each (j := i) (t := f.type) (by rw [List.getElem?_map, Array.getElem?_toList, hi]; rfl) (by rw [List.getElem?_map, List.getElem?_eq_getElem hlt]; rfl) m hm
/-- An argument's own weight. -/
theorem weights_at {H : Type} {ts : List TypeId} {ds : List (DataW H)} (h : (DataW.weightsEach P ts ds).all (· ≤ reachBytes) = true) {j : Nat} {t : TypeId} {d : DataW H} (ht : ts[j]? = some t) (hd : ds[j]? = some d) :
    ∀ n ∈ d.weights P t, n ≤ reachBytes := fun n hn => of_decide_eq_true (List.all_eq_true.1 h n (DataW.weights_mem_each ht hd n hn))
@[simp] theorem min_int (t u : TypeId) (a b : Int) : aBuiltin P W S .min #[t, u] #[.int .i64 a, .int .i64 b] = some (.int .i64 (if b < a then b else a), S) := by kernel_rfl
@[simp] theorem max_int (t u : TypeId) (a b : Int) : aBuiltin P W S .max #[t, u] #[.int .i64 a, .int .i64 b] = some (.int .i64 (if a < b then b else a), S) := by kernel_rfl
/-- A slice of what came in, cut short. -/
theorem slice_old {t e : TypeId} (hu : P.underlying t = some (.slice e)) {k : Nat} (hs : szOf P e = some k) {b o n c : Nat} {m : Int} (h0 : 0 ≤ m) (h1 : m ≤ c) (hf : S.fx W ⟨b, o, none⟩ = some 0) :
    aSlice P W S t (.slice (some ⟨b, o, none⟩) n c) none (some (.int .i64 m)) none = some (.slice (some ⟨b, o, none⟩) m.toNat c) := by
  have e2 : bnd none c c = some c := rfl
  have e1 : bnd (some (.int .i64 m)) 0 c = some m.toNat := if_pos ⟨h0, h1⟩
  have e3 : bnd none 0 m.toNat = some 0 := rfl
  have hb : aBounds n c none (some (.int .i64 m)) none = some (0, m.toNat, c) := by
    simp only [aBounds, e2, e1, e3]
  simp only [aSlice, isZ_none, Bool.false_eq_true, if_false, hu, hs, hf, hb]
  rw [if_pos (Or.inl trivial), if_neg (by simp), Nat.zero_mul, Nat.sub_zero, Nat.sub_zero]
  have : (⟨b, o, none⟩ : Addr).add 0 = ⟨b, o, none⟩ := rfl
  rw [this]
  split <;> rfl
end
end Go.Proofs.YtnnajiaaakkjfaaDoor.E
