/- What the evaluator's writes are in a world. -/
import Derived.Test.YtnnajiaaakkjfaaDoorE3
namespace Go.Proofs.YtnnajiaaakkjfaaDoor.E
open Go Go.RowKit
set_option linter.unusedVariables false

section
variable {W : World} {φ : Emb} {S : St} {w : World}

theorem Rel.of_heap (h : Rel W φ S w) {w' : World} (e1 : w'.heap = w.heap) (e2 : w'.os = w.os) (e3 : w'.tape = w.tape) (e4 : w'.output = w.output) : Rel W φ S w' := by
  refine ⟨⟨e2.trans h.below.os, e3.trans h.below.tape, e4.trans h.below.output, by rw [e1]; exact h.below.size, fun k hk => by rw [e1]; exact h.below.block k hk⟩, h.base, h.lockN, h.ok, h.deadB, fun i L e hi => ?_, h.inj⟩
  obtain ⟨a, b, c⟩ := h.blk i L e hi
  refine ⟨a, by rw [e1]; exact b, ?_⟩
  revert c
  cases S.heap i with
  | dead => exact fun _ => trivial
  | row cs k => unfold BRel; rw [e1]; exact id
  | map es clk => unfold BRel; rw [e1]; exact id
theorem Post.of_heap (h : Rel W φ S w) {w' : World} (e1 : w'.heap = w.heap) (e2 : w'.os = w.os) (e3 : w'.tape = w.tape) (e4 : w'.output = w.output) : Post W φ S w φ S w' :=
  ⟨ELe.refl φ, h.of_heap e1 e2 e3 e4, fun _ _ e => .inl e, by rw [e1]; exact Nat.le_refl _, fun _ _ _ => by rw [e1], fun _ _ h => h⟩
theorem Post.drew (h : Rel W φ S w) : Post W φ S w φ S { w with drawn := w.drawn + 1 } := Post.of_heap h rfl rfl rfl rfl

theorem ne_old (h : Rel W φ S w) {i : Nat} (hd : S.heap i ≠ .dead) : W.heap.size ≤ i := Nat.le_of_not_lt fun hh => hd (h.deadB i hh)

theorem BRel.mono {N : Nat} {φ φ' : Emb} (hle : ELe φ φ') {w : World} {L : Loc} {o : AObj} (h : BRel N φ w L o) : BRel N φ' w L o := by
  cases o with
  | dead => trivial
  | row cs k => obtain ⟨C, e, fr, h1, h2, h3, h4, h5, h6⟩ := h; exact ⟨C, e, fr, h1, h2, h3, h4, h5, fun j v hv => let ⟨v', a, b⟩ := h6 j v hv; ⟨v', a, b.mono hle⟩⟩
  | map es clk => exact h
theorem BRel.heap {N : Nat} {φ : Emb} {w w' : World} {L : Loc} {o : AObj} (h : BRel N φ w L o) (e : w'.heap[L.blk]? = w.heap[L.blk]?) : BRel N φ w' L o := by
  cases o with
  | dead => trivial
  | row cs k => unfold BRel; rw [e]; exact h
  | map es clk => unfold BRel; rw [e]; exact h

/-- A write into the block of one live number: what it holds behind it is said. -/
theorem post_write (h : Rel W φ S w) {i : Nat} {L : Loc} (hφ : φ i = some L) (hl : S.lock ≤ i) (hd : S.heap i ≠ .dead) {o : AObj} {w' : World}
    (hs : w'.heap.size = w.heap.size) (ho : ∀ b, b ≠ L.blk → w'.heap[b]? = w.heap[b]?) (e2 : w'.os = w.os) (e3 : w'.tape = w.tape) (e4 : w'.output = w.output) (hb : BRel W.heap.size φ w' L o) :
    Post W φ S w φ (S.upd i o) w' := by
  have hN := ne_old h hd
  obtain ⟨b1, b2, b3⟩ := h.blk i L hφ hN
  have hic : i < S.c := Nat.lt_of_not_le fun hh => hd (h.ok.2 i hh)
  refine ⟨ELe.refl φ, ⟨⟨e2.trans h.below.os, e3.trans h.below.tape, e4.trans h.below.output, by rw [hs]; exact h.below.size, fun k hk => by rw [ho k (by omega)]; exact h.below.block k hk⟩, h.base, h.lockN, ⟨h.ok.1, fun j hj => ?_⟩, fun j hj => ?_, fun j Lj ej hj => ?_, fun j k Lj Lk ej ek hj hk hne dj dk => ?_⟩, fun _ _ e => .inl e, Nat.le_of_eq hs.symm, fun b hb ht => ho b fun e => ht ⟨i, L, hφ, e.symm, hl, hd⟩, fun b hb ht => ?_⟩
  · have hj : S.c ≤ j := hj
    show (if j = i then o else S.heap j) = _; rw [if_neg (by omega)]; exact h.ok.2 j hj
  · show (if j = i then o else S.heap j) = _; rw [if_neg (by omega)]; exact h.deadB j hj
  · obtain ⟨a1, a2, a3⟩ := h.blk j Lj ej hj
    refine ⟨a1, by rw [hs]; exact a2, ?_⟩
    show BRel _ _ _ _ (if j = i then o else S.heap j)
    split
    · rename_i e; subst e; rw [hφ] at ej; cases ej; exact hb
    · rename_i e
      by_cases dj : S.heap j = .dead
      · rw [dj]; trivial
      · exact a3.heap (ho _ (h.inj j i Lj L ej hφ hj hN e dj hd))
  · have key : ∀ m, (if m = i then o else S.heap m) ≠ .dead → m = i ∨ S.heap m ≠ .dead := fun m hm => by
      by_cases e : m = i
      · exact .inl e
      · rw [if_neg e] at hm; exact .inr hm
    have cj : S.heap j ≠ .dead := by rcases key j dj with e | e; (· rw [e]; exact hd); exact e
    have ck : S.heap k ≠ .dead := by rcases key k dk with e | e; (· rw [e]; exact hd); exact e
    exact h.inj j k Lj Lk ej ek hj hk hne cj ck
  · obtain ⟨j, Lj, ej, eb, hj, dj⟩ := ht
    refine ⟨j, Lj, ej, eb, hj, ?_⟩
    have dj : (if j = i then o else S.heap j) ≠ .dead := dj
    by_cases e : j = i
    · rw [e]; exact hd
    · rwa [if_neg e] at dj

/-- The world behind a store. -/
theorem setCell_heap_ne (w : World) (a : Addr) (v : Value) {b : Nat} (h : b ≠ a.block) : (w.setCell a v).heap[b]? = w.heap[b]? := Below.heap_setCell w a v b h
theorem setCell_heap_eq {w : World} {b o : Nat} {C : Array Value} {e : TypeId} {fr : Nat × Nat} (h : w.heap[b]? = some (.cells C e fr)) (v : Value) :
    (w.setCell ⟨b, o, none⟩ v).heap[b]? = some (.cells (C.setIfInBounds o v) e fr) := by
  simp only [World.setCell, Array.getElem?_modify, if_true, h]
  rfl
theorem setCell_size (w : World) (a : Addr) (v : Value) : (w.setCell a v).heap.size = w.heap.size := by simp [World.setCell]

theorem store_one (h : Rel W φ S w) {i o : Nat} {L : Loc} {cs : List Value} {k : Nat} (hφ : φ i = some L) (hh : S.heap i = .row cs k) (hl : S.lock ≤ i) (ho : o < cs.length) {v v' : Value} (hv : VRel W.heap.size φ v v') :
    (∃ u, w.cell? ⟨L.blk, L.off + o, none⟩ = some u) ∧ w.frozen? ⟨L.blk, L.off + o, none⟩ = false ∧
    Post W φ S w φ (S.upd i (.row (cs.set o v) k)) (w.setCell ⟨L.blk, L.off + o, none⟩ v') := by
  have hd : S.heap i ≠ .dead := by rw [hh]; exact fun e => by cases e
  have hN := ne_old h hd
  obtain ⟨b1, b2, b3⟩ := h.blk i L hφ hN
  rw [hh] at b3
  obtain ⟨C, e, fr, c1, c2, c3, c4, c5, c6⟩ := b3
  refine ⟨⟨C[L.off + o]'(by omega), by rw [cell_row c1, Array.getElem?_eq_getElem]⟩, ?_, ?_⟩
  · unfold World.frozen?
    dsimp only
    rw [c1]
    have := c2 (L.off + o) (by omega)
    cases hx : (decide (fr.1 ≤ L.off + o) && decide (L.off + o < fr.2)) with
    | false => exact hx
    | true => simp only [Bool.and_eq_true, decide_eq_true_eq] at hx; exact (this hx).elim
  · refine post_write h hφ hl hd (setCell_size _ _ _) (fun b hb => setCell_heap_ne _ _ _ hb) rfl rfl rfl ?_
    refine ⟨C.setIfInBounds (L.off + o) v', e, fr, setCell_heap_eq c1 v', by simpa using c2, c3, by simpa using c4, by simpa using c5, fun j u hu => ?_⟩
    rw [List.getElem?_set] at hu
    by_cases hj : o = j
    · subst hj
      rw [if_pos rfl, if_pos ho] at hu
      cases hu
      exact ⟨v', by rw [Array.getElem?_setIfInBounds_self]; rw [if_pos (by omega)], hv⟩
    · rw [if_neg hj] at hu
      obtain ⟨u', a, b⟩ := c6 j u hu
      exact ⟨u', by rw [Array.getElem?_setIfInBounds_ne (by omega)]; exact a, b⟩

theorem runStore {P : Program} {w : World} {a : Addr} {v u : Value} (hs : storable v = true) (hc : w.cell? a = some u) (hf : w.frozen? a = false) : (store a v).run P w = .ok () (w.setCell a v) := by
  cases v <;> first | (simp [storable] at hs; done) | (simp only [Go.store, Sem.run, hc]; rw [if_neg (by rw [hf]; exact Bool.false_ne_true)])
theorem storable_rel {N : Nat} {v v' : Value} (hv : VRel N φ v v') (hs : storable v = true) : storable v' = true := by
  cases hv <;> first | rfl | simp [storable] at hs

theorem set_length_splice : ∀ (vs : List Value) (cs : List Value) (o : Nat), (splice cs o vs).length = cs.length
  | [], _, _ => rfl
  | v :: vs, cs, o => by simp only [splice]; rw [set_length_splice vs]; simp

/-- Several stores, one behind the other. -/
theorem store_all {P : Program} : ∀ (vs : List Value) {vs' : List Value} (S : St) (w : World) (i o j : Nat) (L : Loc) (cs : List Value) (k : Nat) (a' : Addr), Rel W φ S w → φ i = some L → S.heap i = .row cs k → S.lock ≤ i →
    o + vs.length ≤ cs.length → LRel W.heap.size φ vs vs' → vs.all storable = true → (∀ m, a'.add (j + m) = ⟨L.blk, L.off + (o + m), none⟩) →
    ∃ w', (storeCells a' vs' j).run P w = .ok () w' ∧ Post W φ S w φ (S.upd i (.row (splice cs o vs) k)) w' ∧ w'.heap.size = w.heap.size
  | [], vs', S, w, i, o, j, L, cs, k, a', h, hφ, hh, hl, hle, hv, hs, ha => by
    rw [LRel.of_nil hv]
    refine ⟨w, rfl, ?_, rfl⟩
    have e : S.upd i (.row (splice cs o []) k) = S := by
      cases S with
      | mk hp c lk =>
        simp only [St.upd, splice]
        congr 1
        funext m
        split
        · rename_i e; subst e; exact hh.symm
        · rfl
    rw [e]
    exact Post.refl h
  | v :: vs, vs', S, w, i, o, j, L, cs, k, a', h, hφ, hh, hl, hle, hv, hs, ha => by
    obtain ⟨v', r, rfl, hv1, hv2⟩ := hv.uncons
    simp only [List.length_cons] at hle
    simp only [List.all_cons, Bool.and_eq_true] at hs
    obtain ⟨⟨u, hu⟩, hf, hp⟩ := store_one (o := o) h hφ hh hl (by omega) hv1
    have ha0 := ha 0
    rw [Nat.add_zero, Nat.add_zero] at ha0
    have hlen : o + 1 + vs.length ≤ (cs.set o v).length := by rw [List.length_set]; omega
    obtain ⟨w2, r2, p2, s2⟩ := store_all (P := P) vs (S.upd i (.row (cs.set o v) k)) _ i (o + 1) (j + 1) L (cs.set o v) k a' hp.rel hφ (by simp [St.upd]) hl hlen hv2 hs.2 (fun m => by rw [show j + 1 + m = j + (m + 1) by omega, ha, show o + 1 + m = o + (m + 1) by omega])
    refine ⟨w2, ?_, ?_, by rw [s2]; exact setCell_size _ _ _⟩
    · simp only [storeCells]
      rw [ha0, run_bind_ok (runStore (storable_rel hv1 hs.1) hu hf)]
      exact r2
    · have e : (S.upd i (.row (cs.set o v) k)).upd i (.row (splice (cs.set o v) (o + 1) vs) k) = S.upd i (.row (splice cs o (v :: vs)) k) := by
        simp only [St.upd, splice]
        congr 1
        funext m
        split <;> rfl
      rw [e] at p2
      exact hp.trans (Nat.le_refl _) (Nat.le_refl _) p2

theorem addr_of {a a' : Addr} {L : Loc} (k2 : a'.block = L.blk) (k3 : a'.off = L.off + a.off) (k4 : a'.spot = none) (m : Nat) : a'.add m = ⟨L.blk, L.off + (a.off + m), none⟩ := by
  cases a' with
  | mk x y z =>
    simp only at k2 k3 k4
    subst k2 k3 k4
    unfold Addr.add
    split
    · rename_i hm; subst hm; rfl
    · simp only [Nat.add_assoc]

theorem put_sound {P : Program} (h : Rel W φ S w) {a a' : Addr} (k : ARel W.heap.size φ a a') {vs vs' : List Value} (hv : LRel W.heap.size φ vs vs') {S' : St} (e : S.put a vs = some S') :
    ∃ w', (storeCells a' vs').run P w = .ok () w' ∧ Post W φ S w φ S' w' ∧ AStep S S' := by
  unfold St.put at e
  split at e
  · rename_i h0
    cases e
    have : vs = [] := List.eq_nil_of_length_eq_zero h0
    subst this
    rw [LRel.of_nil hv]
    exact ⟨w, rfl, Post.refl h, AStep.refl S⟩
  split at e
  · rename_i hl
    split at e
    · rename_i cs kk hh
      split at e
      · rename_i hle
        split at e
        · rename_i hs
          cases e
          have hd : S.heap a.block ≠ .dead := by rw [hh]; exact fun e => by cases e
          obtain ⟨L, k1, k2, k3, k4, k5⟩ := k
          have hsp := k5 (ne_old h hd)
          obtain ⟨w', r, p, _⟩ := store_all (P := P) vs S w a.block a.off 0 L cs kk a' h k1 hh hl hle hv hs (fun m => by rw [Nat.zero_add]; exact addr_of k2 k3 (k4.trans hsp) m)
          exact ⟨w', r, p, AStep.upd S _ _ h.ok hl hd⟩
        · cases e
      · cases e
    · cases e
  · cases e

/-- A number more. -/
def Emb.ext (φ : Emb) (i : Nat) (L : Loc) : Nat → Option Loc := fun j => if j = i then some L else φ j
theorem ext_le {i : Nat} {L : Loc} (hf : φ i = none) : ELe φ (Emb.ext φ i L) := fun j M e => by
  unfold Emb.ext
  rw [if_neg (fun e2 => by rw [e2, hf] at e; cases e)]
  exact e

theorem heap_alloc_eq (w : World) (o : Obj) : (w.alloc o).heap[w.heap.size]? = some o := by
  show (w.heap.push o)[w.heap.size]? = _
  simp
theorem post_new (h : Rel W φ S w) (hf : φ S.c = none) {o : AObj} {ob : Obj} {L : Loc} (hL : L.blk = w.heap.size) (hb : BRel W.heap.size φ (w.alloc ob) L o) :
    Post W φ S w (Emb.ext φ S.c L) (S.new o) (w.alloc ob) := by
  have hNw : W.heap.size ≤ w.heap.size := h.below.size
  have hNc : W.heap.size ≤ S.c := Nat.le_trans h.lockN h.ok.1
  have hsz : (w.alloc ob).heap.size = w.heap.size + 1 := by show (w.heap.push ob).size = _; simp
  have hle := ext_le (L := L) hf
  refine ⟨hle, ⟨h.below.alloc hNw ob, fun i hi => by unfold Emb.ext; rw [if_neg (by omega)]; exact h.base i hi, h.lockN, ⟨Nat.le_succ_of_le h.ok.1, fun j hj => ?_⟩, fun j hj => ?_, fun j Lj ej hj => ?_, fun j k Lj Lk ej ek hj hk hne dj dk => ?_⟩, fun i M e => ?_, by rw [hsz]; omega, fun b hb2 _ => Below.heap_alloc _ _ _ hb2, fun b hb2 ht => ?_⟩
  · have hj : S.c + 1 ≤ j := hj
    show (if j = S.c then o else S.heap j) = _; rw [if_neg (by omega)]; exact h.ok.2 j (by omega)
  · show (if j = S.c then o else S.heap j) = _; rw [if_neg (by omega)]; exact h.deadB j hj
  · show _ ∧ _ ∧ BRel _ _ _ _ (if j = S.c then o else S.heap j)
    unfold Emb.ext at ej
    split at ej
    · rename_i e; cases ej; rw [if_pos e]; exact ⟨by omega, by omega, hb.mono hle⟩
    · rename_i e
      rw [if_neg e]
      obtain ⟨a1, a2, a3⟩ := h.blk j Lj ej hj
      exact ⟨a1, by omega, (a3.heap (Below.heap_alloc _ _ _ a2)).mono hle⟩
  · have dj : (if j = S.c then o else S.heap j) ≠ .dead := dj
    have dk : (if k = S.c then o else S.heap k) ≠ .dead := dk
    unfold Emb.ext at ej ek
    split at ej
    · rename_i e1
      cases ej
      rw [if_neg (by omega)] at ek
      have := (h.blk k Lk ek hk).2.1
      omega
    · rename_i e1
      rw [if_neg e1] at dj
      split at ek
      · rename_i e2
        cases ek
        have := (h.blk j Lj ej hj).2.1
        omega
      · rename_i e2
        rw [if_neg e2] at dk
        exact h.inj j k Lj Lk ej ek hj hk hne dj dk
  · unfold Emb.ext at e
    split at e
    · rename_i e1; subst e1; exact .inr ⟨Nat.le_refl _, Nat.lt_succ_self _⟩
    · exact .inl e
  · obtain ⟨j, Lj, ej, eb, hj, dj⟩ := ht
    have dj : (if j = S.c then o else S.heap j) ≠ .dead := dj
    unfold Emb.ext at ej
    split at ej
    · cases ej; omega
    · rename_i e1; rw [if_neg e1] at dj; exact ⟨j, Lj, ej, eb, hj, dj⟩

/-- The old number dies; a new one takes its block over. -/
theorem post_move (h : Rel W φ S w) {i : Nat} {L L' : Loc} (hφ : φ i = some L) (hl : S.lock ≤ i) (hd : S.heap i ≠ .dead) (hf : φ S.c = none) {o : AObj} {w' : World}
    (hs : w'.heap.size = w.heap.size) (ho : ∀ b, b ≠ L.blk → w'.heap[b]? = w.heap[b]?) (e2 : w'.os = w.os) (e3 : w'.tape = w.tape) (e4 : w'.output = w.output) (hL : L'.blk = L.blk) (hb : BRel W.heap.size φ w' L' o) :
    Post W φ S w (Emb.ext φ S.c L') ((S.upd i .dead).new o) w' := by
  have p1 := post_write h hφ hl hd (o := .dead) hs ho e2 e3 e4 trivial
  have hN := ne_old h hd
  have hNc : W.heap.size ≤ S.c := Nat.le_trans h.lockN h.ok.1
  have hic : i < S.c := Nat.lt_of_not_le fun hh => hd (h.ok.2 i hh)
  have hle := ext_le (L := L') hf
  have R := p1.rel
  obtain ⟨q1, q2, q3⟩ := h.blk i L hφ hN
  have hin : ∀ j, S.heap j ≠ .dead → j ≠ i → ∀ Lj, φ j = some Lj → W.heap.size ≤ j → Lj.blk ≠ L.blk := fun j dj hne Lj ej hj => h.inj j i Lj L ej hφ hj hN hne dj hd
  have hhp : ∀ j, ((S.upd i .dead).new o).heap j = if j = S.c then o else if j = i then .dead else S.heap j := fun j => rfl
  refine ⟨hle, ⟨R.below, fun j hj => by unfold Emb.ext; rw [if_neg (by omega)]; exact h.base j hj, h.lockN, ⟨Nat.le_succ_of_le h.ok.1, fun j hj => ?_⟩, fun j hj => ?_, fun j Lj ej hj => ?_, fun j k Lj Lk ej ek hj hk hne dj dk => ?_⟩, fun j M e => ?_, by rw [hs]; exact Nat.le_refl _, p1.f1, fun b hb2 ht => ?_⟩
  · have hj : S.c + 1 ≤ j := hj
    rw [hhp, if_neg (by omega)]; exact R.ok.2 j (show S.c ≤ j by omega)
  · rw [hhp, if_neg (by omega)]; exact R.deadB j hj
  · rw [hhp]
    unfold Emb.ext at ej
    split at ej
    · rename_i e; cases ej; rw [if_pos e]; exact ⟨by omega, by omega, hb.mono hle⟩
    · rename_i e
      rw [if_neg e]
      obtain ⟨a1, a2, a3⟩ := R.blk j Lj ej hj
      exact ⟨a1, a2, a3.mono hle⟩
  · rw [hhp] at dj dk
    unfold Emb.ext at ej ek
    split at ej
    · rename_i e1
      cases ej
      rw [if_neg (by omega)] at ek
      rw [if_neg (by omega)] at dk
      split at dk
      · exact (dk rfl).elim
      · rename_i e3; rw [hL]; exact (hin k dk e3 Lk ek hk).symm
    · rename_i e1
      rw [if_neg e1] at dj
      split at dj
      · exact (dj rfl).elim
      rename_i e3
      split at ek
      · cases ek; rw [hL]; exact hin j dj e3 Lj ej hj
      · rename_i e2
        rw [if_neg e2] at dk
        split at dk
        · exact (dk rfl).elim
        · exact h.inj j k Lj Lk ej ek hj hk hne dj dk
  · unfold Emb.ext at e
    split at e
    · rename_i e1; subst e1; exact .inr ⟨Nat.le_refl _, Nat.lt_succ_self _⟩
    · exact .inl e
  · obtain ⟨j, Lj, ej, eb, hj, dj⟩ := ht
    rw [hhp] at dj
    unfold Emb.ext at ej
    split at ej
    · cases ej; rw [hL] at eb; exact ⟨i, L, hφ, eb, hl, hd⟩
    · rename_i e1
      rw [if_neg e1] at dj
      split at dj
      · exact (dj rfl).elim
      · exact ⟨j, Lj, ej, eb, hj, dj⟩
end
end Go.Proofs.YtnnajiaaakkjfaaDoor.E
