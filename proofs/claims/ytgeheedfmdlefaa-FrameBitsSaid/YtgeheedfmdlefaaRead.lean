/- What an argument of any kind holds, told as the kinds of the printed words tell it: for each way in which a value reads as data there is one plain value, within its kind's bounds and within the form's reach. -/
import Derived.Test.YtgeheedfmdlefaaWWords
import Derived.Deep.Slices
import Derived.Deep.Fields
import Derived.ChangeSame
import Derived.SizedLaws
namespace Go.Proofs.Ytgeheedfmdlefaa.Read
open Go.Deep Go.ChangeShapes Go.WideShapes Go.RowKit Go.Proofs.YtgeheedfmdlefaaW.PrintWords
set_option linter.unusedVariables false

/-- Each value that reads at type t is one of d's, and right. -/
def Rd (P : Program) {α : Type} (d : Kd α) (t : TypeId) (right : α → Prop) : Prop :=
  ∀ {H : Type} (enc : TypeId × Value → H) (w : World) (base : Nat) (spare : Nat → Bool) (held : Bool) (fuel : Nat) (cs : List Value) (y : DataW H × List MemPlace),
    DataW.trod enc P w base spare held fuel t cs = some y → (∀ n ∈ y.1.weights P t, n ≤ reachBytes) → ∃ x, d.K w x cs ∧ right x

theorem Rd.int {P : Program} {t : TypeId} {k : IntKind} (ht : P.underlying t = some (.int k)) : Rd P (Kd.int k) t (fun n => (Lit.int k n).wf = true) := by
  intro H enc w base spare held fuel cs y h _
  cases fuel with
  | zero => simp [DataW.trod] at h
  | succ n =>
    unfold DataW.trod at h
    rw [ht] at h
    match cs, h with
    | [.int k' m], h =>
      dsimp only at h
      split at h
      · rename_i hc
        obtain ⟨rfl, hw⟩ := hc
        exact ⟨m, rfl, hw⟩
      · cases h

theorem Rd.bool {P : Program} {t : TypeId} (ht : P.underlying t = some .bool) : Rd P Kd.bool t (fun _ => True) := by
  intro H enc w base spare held fuel cs y h _
  cases fuel with
  | zero => simp [DataW.trod] at h
  | succ n =>
    unfold DataW.trod at h
    rw [ht] at h
    match cs, h with
    | [.bool b], h => exact ⟨b, rfl, trivial⟩

theorem Rd.string {P : Program} {t : TypeId} (ht : P.underlying t = some .string) : Rd P Kd.string t (fun s => s.size ≤ 140737488351232) := by
  intro H enc w base spare held fuel cs y h hw
  cases fuel with
  | zero => simp [DataW.trod] at h
  | succ n =>
    unfold DataW.trod at h
    rw [ht] at h
    match cs, h with
    | [.string s], h =>
      dsimp only at h
      split at h
      · injection h with h
        subst h
        refine ⟨s, rfl, ?_⟩
        have := hw s.data.toList.length (by simp [DataW.weights])
        rw [Array.length_toList] at this
        exact this
      · cases h

theorem weightsAll_mem {H : Type} {P : Program} {e : TypeId} : ∀ {l : List (DataW H)} {d : DataW H}, d ∈ l → ∀ n ∈ d.weights P e, n ∈ DataW.weightsAll P e l
  | a :: r, d, hd, n, hn => by
    simp only [DataW.weightsAll, List.mem_append]
    rcases List.mem_cons.1 hd with rfl | hd
    · exact .inl hn
    · exact .inr (weightsAll_mem hd n hn)

theorem Rd.slice {P : Program} {α : Type} {d : Kd α} {t e : TypeId} {right : α → Prop} (ht : P.underlying t = some (.slice e)) (hC : P.cellsOf e = d.sz) (he : Rd P d e right) :
    Rd P (Kd.slice e d) t (fun l => l.length ≤ maxLen ∧ l.length * P.bytesOf e ≤ 140737488351232 ∧ ∀ x ∈ l, right x) := by
  intro H enc w base spare held fuel cs y h hw
  rcases open_slice ht h with ⟨rfl, rfl⟩ | ⟨a, len, cap, m, n, D, Pl, rfl, hb, hl, hm, hmm, rfl, hx⟩
  · exact ⟨[], ⟨none, 0, rfl, Nat.le_refl _, rfl, Nat.zero_le _, fun hp => by simp at hp⟩, by simp⟩
  · have hle : len ≤ m := by rw [hmm]; split <;> omega
    have hmem : ∀ i, i < len → ∀ n ∈ (D i).weights P e, n ≤ reachBytes := by
      intro i hi n hn
      refine hw n ?_
      simp only [DataW.weights, ht]
      refine List.mem_cons_of_mem _ (List.mem_append_left _ (weightsAll_mem (List.mem_map.2 ⟨i, List.mem_range.2 hi, rfl⟩) n hn))
    have hsize : len * P.bytesOf e ≤ reachBytes := by
      have := hw _ (by simp only [DataW.weights, ht]; exact List.mem_cons_self ..)
      simp only [List.length_map, List.length_range] at this
      exact Nat.le_trans (Nat.mul_le_mul_right _ (Nat.le_add_right _ _)) this
    have build : ∀ k, k ≤ len → ∃ l : List α, l.length = k ∧ ∀ (i : Nat) (x : α), l[i]? = some x → ∃ cs', w.cells? base (a.add (i * P.cellsOf e)) (P.cellsOf e) = some cs' ∧ d.K w x cs' ∧ right x := by
      intro k
      induction k with
      | zero => exact fun _ => ⟨[], rfl, fun i x hi => by simp at hi⟩
      | succ k ih =>
        intro hk
        obtain ⟨l, hl, hf⟩ := ih (by omega)
        obtain ⟨cs', hc, ht'⟩ := hx k (by omega)
        obtain ⟨x, hkk, hr⟩ := he enc w base spare held n cs' _ ht' (hmem k (by omega))
        refine ⟨l ++ [x], by rw [List.length_append, List.length_singleton, hl], fun i z hi => ?_⟩
        rcases Nat.lt_or_ge i l.length with hlt | hge
        · rw [List.getElem?_append_left hlt] at hi
          exact hf i z hi
        · have hik : i = k := by
            have := (List.getElem?_eq_some_iff.1 hi).1
            rw [List.length_append, List.length_singleton] at this
            omega
          subst hik
          rw [← hl, List.getElem?_append_right (Nat.le_refl _), Nat.sub_self] at hi
          simp only [List.getElem?_cons_zero, Option.some.injEq] at hi
          subst hi
          exact ⟨cs', hc, hkk, hr⟩
    obtain ⟨l, hll, hf⟩ := build len (Nat.le_refl _)
    subst hll
    have hmax : maxLen ≤ 9223372036854775807 := by unfold maxLen; omega
    refine ⟨l, ⟨some a, cap, rfl, hl, ⟨rfl, by omega, fun _ => ⟨a, rfl, fun j p hj => ?_⟩⟩⟩, by omega, Nat.le_trans hsize (by decide), fun x hx => ?_⟩
    · obtain ⟨cs', hc, hk, _⟩ := hf j p hj
      obtain ⟨_, hlen, hcell⟩ := World.cells?_some hc
      refine ⟨cs', by rw [hlen, hC], hk, fun i u hu => ?_⟩
      have hi : i < P.cellsOf e := by rw [← hlen]; exact (List.getElem?_eq_some_iff.1 hu).1
      have := hcell i hi
      rw [hu, Go.Deep.add_add] at this
      rw [← hC]
      exact this
    · obtain ⟨i, hi⟩ := List.getElem?_of_mem hx
      obtain ⟨_, _, _, hr⟩ := hf i x hi
      exact hr

/-- A struct's fields, one by one. -/
theorem rd_struct {H : Type} {enc : TypeId × Value → H} {P : Program} {w : World} {base : Nat} {spare : Nat → Bool} {held : Bool} {t : TypeId} {fs : Array Field} {fuel : Nat} {cs : List Value} {y : DataW H × List MemPlace}
    (ht : P.underlying t = some (.struct fs)) (h : DataW.trod enc P w base spare held fuel t cs = some y) (hw : ∀ n ∈ y.1.weights P t, n ≤ reachBytes) :
    cs.length = P.cellsOf t ∧ ∃ n, ∀ (i : Nat) (f : Field), fs[i]? = some f → ∃ z : DataW H × List MemPlace, DataW.trod enc P w base spare held n f.type ((cs.drop f.offset).take (P.cellsOf f.type)) = some z ∧ ∀ m ∈ z.1.weights P f.type, m ≤ reachBytes := by
  obtain ⟨xs, n, _, rfl, hl, hlen, hf⟩ := DataW.trod_struct ht h
  refine ⟨hl, n, fun i f hi => ?_⟩
  have hlt : i < xs.length := by rw [hlen]; exact (Array.getElem?_eq_some_iff.1 hi).1
  refine ⟨xs[i], by rw [hf i f hi, List.getElem?_eq_getElem hlt], fun m hm => hw m ?_⟩
  simp only [DataW.weights, ht]
  exact DataW.weights_mem_each (j := i) (t := f.type) (by rw [List.getElem?_map, Array.getElem?_toList, hi]; rfl) (by rw [List.getElem?_map, List.getElem?_eq_getElem hlt]; rfl) m hm

/-- An argument's own weight. -/
theorem weights_at {H : Type} {P : Program} {ts : List TypeId} {ds : List (DataW H)} (h : (DataW.weightsEach P ts ds).all (· ≤ reachBytes) = true) {j : Nat} {t : TypeId} {d : DataW H} (ht : ts[j]? = some t) (hd : ds[j]? = some d) :
    ∀ n ∈ d.weights P t, n ≤ reachBytes := fun n hn => of_decide_eq_true (List.all_eq_true.1 h n (DataW.weights_mem_each ht hd n hn))

end Go.Proofs.Ytgeheedfmdlefaa.Read
