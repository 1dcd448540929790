/- One operation of the evaluator's is the operation of the model: the parts. -/
import Derived.Test.YtnnajiaaakkjfaaDoorE4
namespace Go.Proofs.YtnnajiaaakkjfaaDoor.E
open Go Go.RowKit
set_option linter.unusedVariables false

section
variable {P : Program} {W : World} {φ : Emb} {S : St} {w : World}

theorem run_und {t : TypeId} {d : TypeDesc} (h : P.underlying t = some d) (w : World) : (underlying t).run P w = .ok d w := by
  unfold underlying program
  simp only [Sem.run_bind]
  simp only [Sem.run, Result.andThen_ok, h]
  rfl
theorem run_info {t : TypeId} {i : TypeInfo} (h : P.info? t = some i) (w : World) : (typeInfo t).run P w = .ok i w := by
  unfold typeInfo program
  simp only [Sem.run_bind]
  simp only [Sem.run, Result.andThen_ok, h]
  rfl
theorem run_size {t : TypeId} {n : Nat} (h : szOf P t = some n) (w : World) : (sizeOf t).run P w = .ok n w := by
  unfold szOf at h
  cases hi : P.info? t with
  | none => rw [hi] at h; cases h
  | some i =>
    rw [hi] at h
    cases h
    unfold sizeOf
    rw [run_bind_ok (run_info hi w)]
    rfl
theorem run_zero {t : TypeId} {i : TypeInfo} {z : Value} (h : P.info? t = some i) (hz : i.zero = some z) (w : World) : (zeroValue t).run P w = .ok z w := by
  unfold zeroValue
  rw [run_bind_ok (run_info h w)]
  simp only [hz]
  rfl
theorem aZero_spec {t : TypeId} {z : Value} (h : aZero P t = some z) : ∃ i, P.info? t = some i ∧ i.zero = some z ∧ flat z = true := by
  unfold aZero at h
  split at h
  · rename_i i hi
    split at h
    · rename_i u hu
      split at h
      · cases h; exact ⟨i, hi, hu, ‹_›⟩
      · cases h
    · cases h
  · cases h
theorem run_newRow (e : TypeId) (C : Array Value) (w : World) : (newRow e C).run P w = .ok ⟨w.heap.size, 0, none⟩ (w.alloc (.cells C e)) := rfl
def aggT (d : TypeDesc) : Bool := match d with | .struct _ | .array _ _ => true | _ => false
theorem und_agg {t : TypeId} {d : TypeDesc} (h : P.underlying t = some d) (w : World) : (isAgg t).run P w = .ok (aggT d) w := by
  unfold isAgg
  rw [run_bind_ok (run_und h w)]
  cases d <;> rfl
theorem stillF_spec {m : Sem Value} {v : Value} (h : stillF P m = some v) : still P m = some v ∧ flat v = true := by
  unfold stillF at h
  split at h
  · split at h
    · cases h; exact ⟨‹_›, ‹_›⟩
    · cases h
  · cases h

/-- What it takes for an operation that hands a value on. -/
def Does (P : Program) (W : World) (φ : Emb) (S : St) (w : World) (m : Sem Value) (v : Value) (S' : St) : Prop :=
  ∃ φ' v' w', m.run P w = .ok v' w' ∧ VRel W.heap.size φ' v v' ∧ Post W φ S w φ' S' w' ∧ AStep S S'
theorem Does.same (h : Rel W φ S w) {m : Sem Value} {v v' : Value} (hr : m.run P w = .ok v' w) (hv : VRel W.heap.size φ v v') : Does P W φ S w m v S :=
  ⟨φ, v', w, hr, hv, Post.refl h, AStep.refl S⟩
theorem Does.stillF (h : Rel W φ S w) {m : Sem Value} {v : Value} (hs : stillF P m = some v) : Does P W φ S w m v S :=
  Does.same h (still_run w (stillF_spec hs).1) (flat_refl (stillF_spec hs).2)

theorem load_run (h : Rel W φ S w) {t : TypeId} {x x' v : Value} (hx : VRel W.heap.size φ x x') (e : aLoad P W S t x = some v) : ∃ v', (Instr.loadAt t x').run P w = .ok v' w ∧ VRel W.heap.size φ v v' := by
  unfold aLoad at e
  split at e
  rotate_left
  · cases e
  rename_i a
  cases hx with
  | ptr ha =>
    rename_i a'
    have hsure : (Instr.loadAt t (.pointer (some a'))).run P w = (loadVar t a').run P w := by
      unfold Instr.loadAt Instr.sureAddr
      rw [run_bind_ok rfl]
    have agg : ∀ d, P.underlying t = some d → (aggT d) = true → (match szOf P t with | some n => (match S.cells W a n with | some l => some (.agg l.toArray) | none => none) | none => none) = some v → ∃ v', (Instr.loadAt t (.pointer (some a'))).run P w = .ok v' w ∧ VRel W.heap.size φ v v' := by
      intro d hd hb e
      split at e
      · rename_i n hn
        split at e
        · rename_i l hl
          cases e
          obtain ⟨l', h1, h2, h3⟩ := cells_sound h ha hl
          refine ⟨.agg l'.toArray, ?_, VRel.agg' h1⟩
          rw [hsure]
          unfold loadVar
          rw [run_bind_ok (und_agg hd w), hb]
          simp only [if_true]
          rw [run_bind_ok (run_size hn w), run_bind_ok (runLoadCells (h1.1.symm.trans h2) h3)]
          rfl
        · cases e
      · cases e
    split at e
    · exact agg _ ‹_› rfl e
    · exact agg _ ‹_› rfl e
    · rename_i d hns hna hd
      obtain ⟨v', h1, h2⟩ := cell_sound h ha e
      refine ⟨v', ?_, h1⟩
      rw [hsure]
      unfold loadVar
      rw [run_bind_ok (und_agg hd w)]
      have hb : (aggT d) = false := by cases d <;> first | rfl | exact (hns _ rfl).elim | exact (hna _ _ rfl).elim
      rw [hb]
      simp only [Bool.false_eq_true, if_false]
      exact runLoad h2
    · cases e

theorem does_load (h : Rel W φ S w) {t : TypeId} {x x' v : Value} (hx : VRel W.heap.size φ x x') (e : aLoad P W S t x = some v) : Does P W φ S w (Instr.loadAt t x') v S :=
  let ⟨v', a, b⟩ := load_run h hx e
  Does.same h a b

theorem does_store (h : Rel W φ S w) {t : TypeId} {x x' v v' : Value} (hx : VRel W.heap.size φ x x') (hv : VRel W.heap.size φ v v') {S' : St} (e : aStore P S t x v = some S') :
    ∃ w', (Instr.storeAt t x' v').run P w = .ok () w' ∧ Post W φ S w φ S' w' ∧ AStep S S' := by
  unfold aStore at e
  split at e
  rotate_left
  · cases e
  rename_i a
  split at e
  · rename_i hsz
    obtain ⟨hsz, hj⟩ := hsz
    cases hx with
    | ptr ha =>
      rename_i a'
      obtain ⟨w', r, p, q⟩ := put_sound (P := P) h ha (vs' := v'.cells.toList) (cells_rel hj hv) e
      refine ⟨w', ?_, p, q⟩
      unfold Instr.storeAt Instr.sureAddr
      rw [run_bind_ok rfl]
      unfold storeVar
      have hs' : v'.cells.size = v.cells.size := (cells_rel hj hv).size.symm
      rw [run_bind_ok (run_size hsz w)]
      simp only [hs', ne_eq, not_true_eq_false, if_false]
      exact r
  · cases e

theorem new_fresh (h : Rel W φ S w) (hf : φ S.c = none) {cs cs' : List Value} (k : Nat) (e : TypeId) (C : Array Value) (hr : LRel W.heap.size φ cs cs') (hC : ∀ (j : Nat) (v : Value), cs'[j]? = some v → C[j]? = some v) (hsz : cs.length ≤ C.size) :
    Post W φ S w (Emb.ext φ S.c ⟨w.heap.size, 0, k, C.size⟩) (S.new (.row cs k)) (w.alloc (.cells C e)) := by
  refine post_new h hf rfl ⟨C, e, (0, 0), heap_alloc_eq _ _, fun j hj hh => by have := hh.2; simp at this, rfl, rfl, by rw [Nat.zero_add]; exact hsz, fun j v hv => ?_⟩
  obtain ⟨v', e1, e2⟩ := hr.2 j v hv
  exact ⟨v', by rw [Nat.zero_add]; exact hC j v' e1, e2⟩
theorem ext_ptr {N : Nat} {i b k n : Nat} : ARel N (Emb.ext φ i ⟨b, 0, k, n⟩) ⟨i, 0, none⟩ ⟨b, 0, none⟩ :=
  ⟨⟨b, 0, k, n⟩, if_pos rfl, rfl, rfl, rfl, fun _ => rfl⟩

theorem does_box (h : Rel W φ S w) (hf : φ S.c = none) (e : TypeId) {x x' : Value} (hj : notJ x = true) (hx : VRel W.heap.size φ x x') :
    Does P W φ S w (Instr.box e x') (.pointer (some ⟨S.c, 0, none⟩)) (S.new (.row x.cells.toList 0)) := by
  refine ⟨_, .pointer (some ⟨w.heap.size, 0, none⟩), w.alloc (.cells x'.cells e), ?_, .ptr ext_ptr, new_fresh h hf 0 e x'.cells (cells_rel hj hx) (fun j v hv => by rwa [Array.getElem?_toList] at hv) (by have := (cells_rel hj hx).size; simp; omega), AStep.new S _ h.ok.1⟩
  unfold Instr.box newVar
  rw [run_bind_ok (run_newRow e x'.cells w)]
  rfl
theorem does_alloc (h : Rel W φ S w) (hf : φ S.c = none) {e : TypeId} {z : Value} (hz : aZero P e = some z) :
    Does P W φ S w (Instr.alloc e true (.tuple #[])) (.pointer (some ⟨S.c, 0, none⟩)) (S.new (.row z.cells.toList 0)) := by
  obtain ⟨i, h1, h2, h3⟩ := aZero_spec hz
  obtain ⟨φ', v', w', r, rest⟩ := does_box (P := P) h hf e (flat_notJ h3) (flat_refl (N := W.heap.size) (φ := φ) h3)
  refine ⟨φ', v', w', ?_, rest⟩
  rw [← r]
  unfold Instr.alloc Instr.box
  rw [run_bind_ok (run_zero h1 h2 w)]

/-- Building a struct or an array. -/
theorem fill_rel {N : Nat} (pl : Nat → Option (Nat × Nat)) : ∀ (ps ps' : List (Nat × Value)) (c c' r : Array Value), ps.all (fun p => notJ p.2) = true → ps.map (·.1) = ps'.map (·.1) → LRel N φ (ps.map (·.2)) (ps'.map (·.2)) → RRel N φ c c' → Instr.fill pl c ps = some r →
    ∃ r', Instr.fill pl c' ps' = some r' ∧ RRel N φ r r'
  | [], ps', c, c', r, hj, h1, h2, h3, e => by
    have : ps' = [] := by cases ps' with | nil => rfl | cons _ _ => simp at h1
    subst this
    simp only [Instr.fill, Option.some.injEq] at e ⊢
    subst e
    exact ⟨c', rfl, h3⟩
  | (i, v) :: ps, ps', c, c', r, hj, h1, h2, h3, e => by
    simp only [List.all_cons, Bool.and_eq_true] at hj
    cases ps' with
    | nil => simp at h1
    | cons p ps' =>
      obtain ⟨i', v'⟩ := p
      simp only [List.map_cons, List.cons.injEq] at h1
      obtain ⟨rfl, h1⟩ := h1
      simp only [List.map_cons] at h2
      obtain ⟨u, q, e2, hv, h2⟩ := h2.uncons
      simp only [List.cons.injEq] at e2
      obtain ⟨rfl, rfl⟩ := e2
      simp only [Instr.fill] at e ⊢
      split at e
      · cases e
      · rename_i off size hp
        have hsz : v'.cells.size = v.cells.size := (cells_rel hj.1 hv).size.symm
        have hc : c'.size = c.size := h3.size.symm
        rw [hsz, hc]
        split at e
        · cases e
        · rename_i hok
          rw [if_neg hok]
          refine fill_rel pl ps ps' _ _ r hj.2 h1 h2 ?_ e
          have key : ∀ (l l' : List Value) (n : Nat) (d d' : Array Value), LRel N φ l l' → RRel N φ d d' →
              RRel N φ ((l.zipIdx n).foldl (fun cs (x : Value × Nat) => cs.setIfInBounds (off + x.2) x.1) d) ((l'.zipIdx n).foldl (fun cs (x : Value × Nat) => cs.setIfInBounds (off + x.2) x.1) d') := by
            intro l
            induction l with
            | nil => intro l' n d d' hl hd; rw [LRel.of_nil hl]; exact hd
            | cons x l ih =>
              intro l' n d d' hl hd
              obtain ⟨x', r', rfl, hx, hl⟩ := hl.uncons
              simp only [List.zipIdx_cons, List.foldl_cons]
              exact ih _ _ _ _ hl (hd.set _ hx)
          have := key v.cells.toList v'.cells.toList 0 c c' (cells_rel hj.1 hv) h3
          have two : ∀ (a : Array Value) (d : Array Value), a.zipIdx.foldl (fun cs (x : Value × Nat) => cs.setIfInBounds (off + x.2) x.1) d = (a.toList.zipIdx 0).foldl (fun cs (x : Value × Nat) => cs.setIfInBounds (off + x.2) x.1) d := by
            intro a d
            rw [← Array.foldl_toList, Array.toList_zipIdx]
          rw [← two, ← two] at this
          exact this

theorem flat_cells {z : Value} (h : flat z = true) : RRel W.heap.size φ z.cells z.cells := cells_rel (flat_notJ h) (flat_refl h)

theorem does_build (h : Rel W φ S w) {t : TypeId} {ps ps' : Array (Nat × Value)} {v : Value} (h1 : ps.toList.map (·.1) = ps'.toList.map (·.1)) (h2 : LRel W.heap.size φ (ps.toList.map (·.2)) (ps'.toList.map (·.2)))
    (e : aBuild P t ps = some v) : Does P W φ S w (Instr.build t ps') v S := by
  unfold aBuild at e
  split at e
  rotate_left
  · cases e
  rename_i z hz
  split at e
  rotate_left
  · cases e
  rename_i hj
  obtain ⟨i, z1, z2, z3⟩ := aZero_spec hz
  have sz : still P (zeroValue t) = some z := by
    unfold zeroValue typeInfo program
    simp only [still_bind, still, Option.bind_some, z1, still_pure, z2]
  unfold Instr.build at e
  rw [still_bind, sz, Option.bind_some, still_bind] at e
  cases hu : still P (underlying t) with
  | none => rw [hu] at e; cases e
  | some d =>
    rw [hu, Option.bind_some] at e
    have main : ∀ (pl : Nat → Option (Nat × Nat)), (match Instr.fill pl z.cells ps.toList with | some c => some (Value.agg c) | none => none) = some v → ∃ r', Instr.fill pl z.cells ps'.toList = some r' ∧ VRel W.heap.size φ v (.agg r') := by
      intro pl e
      split at e
      · rename_i r hr
        cases e
        obtain ⟨r', a, b⟩ := fill_rel pl _ _ _ _ r hj h1 h2 (flat_cells z3) hr
        exact ⟨r', a, VRel.agg' b⟩
      · cases e
    cases d with
    | struct fs =>
      dsimp only at e
      rw [still_bind] at e
      cases hm : still P (fs.mapM fun f => do pure (f.offset, ← sizeOf f.type)) with
      | none => rw [hm] at e; cases e
      | some pls =>
        rw [hm, Option.bind_some] at e
        obtain ⟨r', a, b⟩ := main (fun j => pls[j]?) (by
          split at e
          · rename_i c hc; rw [hc]; exact e
          · cases e)
        refine Does.same h ?_ b
        unfold Instr.build
        rw [run_bind_ok (still_run w sz), run_bind_ok (still_run w hu)]
        dsimp only
        rw [run_bind_ok (still_run w hm), a]
        rfl
    | array len el =>
      dsimp only at e
      rw [still_bind] at e
      cases hm : still P (sizeOf el) with
      | none => rw [hm] at e; cases e
      | some n =>
        rw [hm, Option.bind_some] at e
        obtain ⟨r', a, b⟩ := main (fun i => some (i * n, n)) (by
          split at e
          · rename_i c hc; rw [hc]; exact e
          · cases e)
        refine Does.same h ?_ b
        unfold Instr.build
        rw [run_bind_ok (still_run w sz), run_bind_ok (still_run w hu)]
        dsimp only
        rw [run_bind_ok (still_run w hm), a]
        rfl
    | _ => cases e
end
end Go.Proofs.YtnnajiaaakkjfaaDoor.E
