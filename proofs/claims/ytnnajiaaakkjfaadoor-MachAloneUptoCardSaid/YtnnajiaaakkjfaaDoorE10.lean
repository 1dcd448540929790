/- One operation of the evaluator's is the operation of the model: append, make, length. -/
import Derived.Test.YtnnajiaaakkjfaaDoorE9
namespace Go.Proofs.YtnnajiaaakkjfaaDoor.E
open Go Go.RowKit
set_option linter.unusedVariables false

section
variable {P : Program} {W : World} {φ : Emb} {S : St} {w : World}

/-- Stores into a row of the world's, one behind the other. -/
theorem store_raw {b : Nat} {e : TypeId} {fr : Nat × Nat} (a' : Addr) : ∀ (vs : List Value) (w : World) (C : Array Value) (o j : Nat), w.heap[b]? = some (.cells C e fr) → (∀ j, j < C.size → ¬ (fr.1 ≤ j ∧ j < fr.2)) →
    o + vs.length ≤ C.size → vs.all storable = true → (∀ m, a'.add (j + m) = ⟨b, o + m, none⟩) →
    ∃ w' C', (storeCells a' vs j).run P w = .ok () w' ∧ w'.heap.size = w.heap.size ∧ (∀ k, k ≠ b → w'.heap[k]? = w.heap[k]?) ∧ w'.os = w.os ∧ w'.tape = w.tape ∧ w'.output = w.output ∧
      w'.heap[b]? = some (.cells C' e fr) ∧ C'.size = C.size ∧ (∀ k, k < o → C'[k]? = C[k]?) ∧ (∀ k v, vs[k]? = some v → C'[o + k]? = some v)
  | [], w, C, o, j, h, hf, hle, hs, ha => ⟨w, C, rfl, rfl, fun _ _ => rfl, rfl, rfl, rfl, h, rfl, fun _ _ => rfl, fun k v hv => by simp at hv⟩
  | v :: vs, w, C, o, j, h, hf, hle, hs, ha => by
    simp only [List.length_cons] at hle
    simp only [List.all_cons, Bool.and_eq_true] at hs
    have ha0 := ha 0
    rw [Nat.add_zero, Nat.add_zero] at ha0
    have hc : w.cell? ⟨b, o, none⟩ = some (C[o]'(by omega)) := by rw [cell_row h, Array.getElem?_eq_getElem]
    have hfz : w.frozen? ⟨b, o, none⟩ = false := by
      unfold World.frozen?
      dsimp only
      rw [h]
      have := hf o (by omega)
      cases hx : (decide (fr.1 ≤ o) && decide (o < fr.2)) with
      | false => exact hx
      | true => simp only [Bool.and_eq_true, decide_eq_true_eq] at hx; exact (this hx).elim
    obtain ⟨w', C', r, e1, e2, e3, e4, e5, e6, e7, e8, e9⟩ := store_raw a' vs (w.setCell ⟨b, o, none⟩ v) (C.setIfInBounds o v) (o + 1) (j + 1) (setCell_heap_eq h v) (by simpa using hf) (by simp; omega) hs.2
      (fun m => by rw [show j + 1 + m = j + (m + 1) by omega, ha, show o + 1 + m = o + (m + 1) by omega])
    refine ⟨w', C', ?_, by rw [e1]; exact setCell_size _ _ _, fun k hk => by rw [e2 k hk]; exact setCell_heap_ne _ _ _ hk, e3, e4, e5, e6, by rw [e7]; simp, fun k hk => ?_, fun k u hu => ?_⟩
    · simp only [storeCells]
      rw [ha0, run_bind_ok (runStore hs.1 hc hfz)]
      exact r
    · rw [e8 k (by omega), Array.getElem?_setIfInBounds_ne (by omega)]
    · cases k with
      | zero =>
        simp at hu
        subst hu
        rw [Nat.add_zero, e8 o (by omega), Array.getElem?_setIfInBounds_self, if_pos (by omega)]
      | succ k => rw [show o + (k + 1) = o + 1 + k by omega]; exact e9 k u (by simpa using hu)

theorem all_storable {N : Nat} : ∀ {l l' : List Value}, LRel N φ l l' → l.all storable = true → l'.all storable = true
  | [], l', h, _ => by rw [LRel.of_nil h]; rfl
  | v :: l, l', h, hs => by
    obtain ⟨v', r, rfl, h1, h2⟩ := h.uncons
    simp only [List.all_cons, Bool.and_eq_true] at hs ⊢
    exact ⟨storable_rel h1 hs.1, all_storable h2 hs.2⟩

theorem ok_new {S : St} (h : Rel W φ S w) {i : Nat} (hl : S.lock ≤ i) (hd : S.heap i ≠ .dead) (o : AObj) : AStep S ((S.upd i .dead).new o) :=
  (AStep.upd S i .dead h.ok hl hd).trans (AStep.new _ _ h.ok.1)

/-- A row grown anew. -/
theorem grown_post (h : Rel W φ S w) (hf : φ S.c = none) {e : TypeId} {size n sLen cap : Nat} {old' new' : Array Value} {old new : List Value} {z : Value} (ho : LRel W.heap.size φ old old'.toList) (hn : LRel W.heap.size φ new new'.toList)
    (lo : old.length = sLen * size) (ln : new.length = n * size) (hz : z.cells.size = size) (hs : size ≠ 0) (hc : sLen + n ≤ cap) :
    ∃ φ', VRel W.heap.size φ' (.slice (some ⟨S.c, 0, none⟩) (sLen + n) (sLen + n)) (.slice (some ⟨w.heap.size, 0, none⟩) (sLen + n) cap) ∧
      Post W φ S w φ' (S.new (.row (old ++ new) size)) (World.alloc { w with drawn := w.drawn + 1 } (.cells (old' ++ new' ++ Builtin.zeroCells z.cells (cap - (sLen + n))) e)) := by
  have hlo := ho.1
  have hln := hn.1
  simp only [Array.length_toList] at hlo hln
  have hsz : (old' ++ new' ++ Builtin.zeroCells z.cells (cap - (sLen + n))).size = cap * size := by
    rw [Array.size_append, Array.size_append, zeroCells_size, hz, ← hlo, ← hln, lo, ln, ← Nat.add_mul, ← Nat.add_mul]
    congr 1
    omega
  have p := (Post.drew h).rel
  have q := new_fresh (w := { w with drawn := w.drawn + 1 }) p hf (cs := old ++ new) (cs' := old'.toList ++ new'.toList) size e (old' ++ new' ++ Builtin.zeroCells z.cells (cap - (sLen + n))) (LRel.append ho hn) (fun j v hv => by
    rw [← Array.getElem?_toList, Array.toList_append, Array.toList_append]
    rw [List.getElem?_append_left (List.getElem?_eq_some_iff.1 hv).1]
    exact hv) (by rw [hsz, List.length_append, lo, ln, ← Nat.add_mul]; exact Nat.mul_le_mul_right _ hc)
  refine ⟨_, .sl ⟨_, if_pos rfl, rfl, rfl, fun _ => rfl, .inr (.inl ⟨hs, hc, rfl, ?_⟩)⟩, (Post.drew h).trans (Nat.le_refl _) (Nat.le_succ _) q⟩
  exact (by rw [hsz, Nat.zero_add]; exact Nat.le_refl _ : 0 + cap * size ≤ (old' ++ new' ++ Builtin.zeroCells z.cells (cap - (sLen + n))).size)

theorem does_append (h : Rel W φ S w) {ts : Array TypeId} {ty : TypeId} {args args' : Array Value} (hargs : RRel W.heap.size φ args args') (hn2 : args.size = 2) {v : Value} {S' : St} (e : aAppend P W S ts args = some (v, S')) (hf : S.c < S'.c → φ S.c = none) :
    Does P W φ S w (Builtin.append_ ts ty args') v S' := by
  unfold aAppend at e
  split at e
  rotate_left
  · cases e
  rename_i st xt base sLen sCap x t0 t1 a0 a1
  split at e
  rotate_left
  · cases e
  rename_i el hu
  split at e
  rotate_left
  · cases e
  rename_i ie hi
  split at e
  rotate_left
  · cases e
  rename_i z hz
  split at e
  rotate_left
  · cases e
  rename_i hzz
  obtain ⟨hzs, hp, hbp, hfz⟩ := hzz
  split at e
  rotate_left
  · cases e
  rename_i n new hsrc
  split at e
  rotate_left
  · cases e
  rename_i hbound
  obtain ⟨s', b0, hs'⟩ := hargs.getElem? a0
  obtain ⟨x', b1, hx'⟩ := hargs.getElem? a1
  have hargs' : args' = #[s', x'] := by
    have hsz := hargs.size
    rw [hn2] at hsz
    refine Array.ext (by rw [← hsz]; rfl) fun i h1 h2 => ?_
    have hi2 : i < 2 := by rw [← hsz] at h1; exact h1
    have : i = 0 ∨ i = 1 := by omega
    rcases this with rfl | rfl
    · rw [Array.getElem?_eq_getElem h1] at b0; cases b0; rfl
    · rw [Array.getElem?_eq_getElem h1] at b1; cases b1; rfl
  subst hargs'
  have hnb : n * ie.bytes ≤ 2 ^ 48 := Nat.le_trans (Nat.mul_le_mul_right _ (by omega)) hbound
  obtain ⟨new', hnew, hnl, hSrc⟩ := src_sound h hx' hfz hzs hp hsrc hnb
  have hs0 : ie.size ≠ 0 := by omega
  cases base with
  | none =>
    dsimp only at e
    by_cases hnil : sLen = 0 ∧ sCap = 0
    rotate_left
    · rw [if_neg hnil] at e; cases e
    rw [if_pos hnil] at e
    obtain ⟨rfl, rfl⟩ := hnil
    cases hs'
    by_cases hn0 : n = 0
    · rw [if_pos hn0] at e
      cases e
      subst hn0
      refine Does.same h ?_ (.nilSl _ _)
      exact append_room (ty := ty) t0 t1 hu hi hz hzs (hSrc w rfl) (by omega) (fun a ha => by cases ha) (fun _ => rfl)
    · rw [if_neg hn0] at e
      cases e
      have hfree := hf (Nat.lt_succ_self _)
      obtain ⟨cap, hc, hrun⟩ := append_grow (ty := ty) (base := none) (sLen := 0) (sCap := 0) (old := #[]) t0 t1 hu hi hz hzs hSrc (by omega) hbp hbound rfl
      obtain ⟨φ', hv, hpost⟩ := grown_post (e := el) (sLen := 0) h hfree (old := []) (old' := #[]) LRel.nil hnew (by simp) hnl hzs hs0 hc
      rw [Nat.zero_add] at hv
      rw [Nat.zero_add] at hrun
      exact ⟨φ', _, _, by rw [hrun, Nat.zero_add], hv, hpost, AStep.newOk h _⟩
  | some a =>
    dsimp only at e
    by_cases hZ : isZ W a = true
    · rw [if_pos hZ] at e
      split at e
      rotate_left
      · cases e
      rename_i hnil
      obtain ⟨rfl, rfl⟩ := hnil
      have hZ' : a.spot = some 0 ∧ W.heap.size ≤ a.block := by unfold isZ at hZ; simpa using hZ
      have hcap : ∃ a', s' = .slice (some a') 0 0 := by
        cases hs' with
        | sl0 hNb => exact ⟨_, rfl⟩
        | sl hsl =>
          obtain ⟨L, k1, k2, k3, k4, k5⟩ := hsl
          have := k4 hZ'.2
          rw [hZ'.1] at this
          cases this
      obtain ⟨a', rfl⟩ := hcap
      by_cases hn0 : n = 0
      · rw [if_pos hn0] at e
        cases e
        subst hn0
        have hnew0 : new = [] := List.eq_nil_of_length_eq_zero (by rw [hnl]; omega)
        subst hnew0
        have hnew0' : new'.toList = [] := LRel.of_nil hnew
        refine Does.same h (append_room (ty := ty) (base := some a') t0 t1 hu hi hz hzs (hSrc w rfl) (by omega) (w' := w) (fun b hb => by cases hb; rw [hnew0']; rfl) (fun hb => by cases hb)) ?_
        obtain ⟨b, o, sp⟩ := a
        obtain ⟨h1, h2⟩ := hZ'
        dsimp only at h1 h2
        subst h1
        exact .sl0 h2
      · rw [if_neg hn0] at e
        cases e
        have hfree := hf (Nat.lt_succ_self _)
        obtain ⟨cap, hc, hrun⟩ := append_grow (ty := ty) (base := some a') (sLen := 0) (sCap := 0) (old := #[]) t0 t1 hu hi hz hzs hSrc (by omega) hbp hbound (by
          simp only [Builtin.firstCells, Nat.zero_mul]
          exact runLoadCells (l := []) rfl (fun j v hv => by simp at hv))
        obtain ⟨φ', hv, hpost⟩ := grown_post (e := el) (sLen := 0) h hfree (old := []) (old' := #[]) LRel.nil hnew (by simp) hnl hzs hs0 hc
        rw [Nat.zero_add] at hv
        rw [Nat.zero_add] at hrun
        exact ⟨φ', _, _, by rw [hrun, Nat.zero_add], hv, hpost, AStep.newOk h _⟩
    rw [if_neg hZ] at e
    cases hfx : S.fx W a with
    | none => rw [hfx] at e; cases e
    | some kf =>
    rw [hfx] at e
    cases kf with
    | succ k =>
      dsimp only at e
      split at e
      rotate_left
      · cases e
      rename_i cs kk hcs
      split at e
      rotate_left
      · cases e
      rename_i hcond
      obtain ⟨hk, hle, hlock, hst⟩ := hcond
      cases e
      have hd : S.heap a.block ≠ .dead := by rw [hcs]; exact fun e => by cases e
      have hfree := hf (Nat.lt_succ_self _)
      cases hs' with
      | sl0 hNb => exact absurd (isZ_mk hNb) hZ
      | sl hsl =>
        rename_i a' c'
        obtain ⟨L, k1, k2, k3, k4, k5⟩ := hsl
        obtain ⟨f1, f2⟩ := fx_spec h k1 hfx
        have hN := ne_old h hd
        have hsp := k4 hN
        obtain ⟨q1, q2, q3⟩ := h.blk _ L k1 hN
        rw [hcs] at q3
        obtain ⟨C, ee, fr, c1, c2, c3, c4, c5, c6⟩ := q3
        have hL : L.esz = ie.size := f1.trans hk
        have hL0 : L.esz ≠ 0 := by rw [hL]; exact hs0
        by_cases hroom : sLen + n ≤ c'
        · rcases k5 with k | k | k
          · exact (hL0 k.1).elim
          · obtain ⟨_, hcc, hoff, htot⟩ := k
            have hlen' : (sLen + n) * ie.size ≤ c' * ie.size := Nat.mul_le_mul_right _ hroom
            rw [hL, c4] at htot
            rw [Nat.add_mul] at hlen'
            obtain ⟨w', C', r, e1, e2, e3, e4, e5, e6, e7, e8, e9⟩ := store_raw (P := P) (a'.add (sLen * ie.size)) new'.toList w C (L.off + a.off + sLen * ie.size) 0 c1 c2 (by rw [← hnew.1, hnl]; omega) (all_storable hnew hst) (fun m => by
              rw [Nat.zero_add, addr_of (a := ⟨a.block, a.off + sLen * ie.size, none⟩) (L := L) (by rw [add_block]; exact k2) (by rw [add_off, hoff]; dsimp only; omega) (by rw [add_spot, k3, hsp]; split <;> rfl) m]
              congr 1
              dsimp only
              omega)
            have hrun := append_room (ty := ty) (base := some a') (sLen := sLen) (sCap := c') t0 t1 hu hi hz hzs (hSrc w rfl) hroom (w' := w') (fun b hb => by cases hb; exact r) (fun hb => by cases hb)
            have hpost := post_move h k1 hlock hd hfree (L' := ⟨L.blk, a'.off, ie.size, C'.size⟩) (o := .row ((cs.drop a.off).take (sLen * ie.size) ++ new) ie.size) e1 e2 e3 e4 e5 rfl ?_
            · refine ⟨_, _, w', hrun, .sl ⟨⟨L.blk, a'.off, ie.size, C'.size⟩, if_pos rfl, k2, k3.trans hsp, fun _ => rfl, .inr (.inl ⟨hs0, hroom, ?_, ?_⟩)⟩, hpost, ok_new h hlock hd _⟩
              · show a'.off = a'.off + 0
                rfl
              · show a'.off + c' * ie.size ≤ C'.size
                rw [e7]; exact htot
            · have hlt : (List.take (sLen * ie.size) (List.drop a.off cs)).length = sLen * ie.size := by simp only [List.length_take, List.length_drop]; omega
              refine ⟨C', ee, fr, e6, by rw [e7]; exact c2, rfl, rfl, ?_, fun j u hu2 => ?_⟩
              · show a'.off + _ ≤ _
                rw [List.length_append, hlt, hnl, e7, hoff]
                omega
              · show ∃ v', C'[a'.off + j]? = some v' ∧ _
                rcases Nat.lt_or_ge j (sLen * ie.size) with hj | hj
                · rw [List.getElem?_append_left (by rw [hlt]; exact hj), List.getElem?_take, if_pos hj, List.getElem?_drop] at hu2
                  obtain ⟨v', d1, d2⟩ := c6 _ _ hu2
                  refine ⟨v', ?_, d2⟩
                  rw [e8 _ (by rw [hoff]; omega), hoff, ← d1]
                  congr 1
                  omega
                · rw [List.getElem?_append_right (by rw [hlt]; exact hj), hlt] at hu2
                  obtain ⟨v', d1, d2⟩ := hnew.2 _ _ hu2
                  refine ⟨v', ?_, d2⟩
                  have := e9 _ _ d1
                  rw [← this]
                  congr 1
                  omega
          · obtain ⟨_, hl0, hc0, hc0'⟩ := k
            subst hl0 hc0 hc0'
            have hn0 : n = 0 := by omega
            subst hn0
            have hnew0 : new = [] := List.eq_nil_of_length_eq_zero (by rw [hnl]; omega)
            subst hnew0
            have hnew0' : new'.toList = [] := LRel.of_nil hnew
            have hrun := append_room (ty := ty) (base := some a') (sLen := 0) (sCap := 0) t0 t1 hu hi hz hzs (hSrc w rfl) hroom (w' := w) (fun b hb => by cases hb; rw [hnew0']; rfl) (fun hb => by cases hb)
            have hpost := post_move h k1 hlock hd hfree (L' := ⟨L.blk, L.off, ie.size, C.size⟩) (o := .row ((cs.drop a.off).take (0 * ie.size) ++ []) ie.size) (w' := w) rfl (fun _ _ => rfl) rfl rfl rfl rfl ?_
            · exact ⟨_, _, w, hrun, .sl ⟨⟨L.blk, L.off, ie.size, C.size⟩, if_pos rfl, k2, k3.trans hsp, fun _ => rfl, .inr (.inr ⟨hs0, rfl, rfl, rfl⟩)⟩, hpost, ok_new h hlock hd _⟩
            · refine ⟨C, ee, fr, c1, c2, rfl, rfl, ?_, fun j u hu2 => ?_⟩
              · show L.off + _ ≤ _
                simp only [Nat.zero_mul, List.take_zero, List.append_nil, List.length_nil]
                omega
              · simp at hu2
        · have hkill := post_write h k1 hlock hd (o := .dead) (w' := w) rfl (fun _ _ => rfl) rfl rfl rfl trivial
          have hold : ∃ old' : List Value, LRel W.heap.size φ ((cs.drop a.off).take (sLen * ie.size)) old' ∧ ∀ w' : World, w'.heap = w.heap → (Builtin.firstCells ie.size sLen (.slice (some a') sLen c')).run P w' = .ok old'.toArray w' := by
            by_cases hl : sLen = 0
            · subst hl
              refine ⟨[], by rw [Nat.zero_mul]; exact LRel.nil, fun w' _ => ?_⟩
              simp only [Builtin.firstCells, Nat.zero_mul]
              exact runLoadCells (l := []) rfl (fun j v hv => by simp at hv)
            · have hoff : a'.off = L.off + a.off := by
                rcases k5 with k | k | k
                · exact k.2.2
                · exact k.2.2.1
                · exact (hl k.2.1).elim
              have hcells : S.cells W a (sLen * ie.size) = some ((cs.drop a.off).take (sLen * ie.size)) := by
                unfold St.cells
                have hpos : 0 < sLen * ie.size := Nat.mul_pos (by omega) (by omega)
                rw [if_neg (by omega), if_neg (by omega), hcs]
                dsimp only
                rw [if_pos hle]
              obtain ⟨l', r1, r2, r3⟩ := cells_sound h (a := a) (a' := a') ⟨L, k1, k2, hoff, k3, k4⟩ hcells
              refine ⟨l', r1, fun w' hw' => ?_⟩
              simp only [Builtin.firstCells]
              refine runLoadCells (r1.1.symm.trans r2) (fun j v hv => ?_)
              have := r3 j v hv
              unfold World.cell? at this ⊢
              rwa [hw']
          obtain ⟨old', ho1, ho2⟩ := hold
          obtain ⟨cap, hc, hrun⟩ := append_grow (ty := ty) (base := some a') (sLen := sLen) (sCap := c') t0 t1 hu hi hz hzs hSrc hroom hbp hbound (ho2 _ rfl)
          have hlt : (List.take (sLen * ie.size) (List.drop a.off cs)).length = sLen * ie.size := by simp only [List.length_take, List.length_drop]; omega
          obtain ⟨φ', hv, hpost⟩ := grown_post (e := el) (sLen := sLen) hkill.rel hfree (old' := old'.toArray) ho1 hnew hlt hnl hzs hs0 hc
          exact ⟨φ', _, _, hrun, hv, hkill.trans (Nat.le_refl _) (Nat.le_succ _) hpost, ok_new h hlock hd _⟩
    | zero =>
      dsimp only at e
      cases hs' with
      | sl0 hNb => exact absurd (isZ_mk hNb) hZ
      | sl hsl =>
        rename_i a' c'
        obtain ⟨L, k1, k2, k3, k4, k5⟩ := hsl
        obtain ⟨f1, f2⟩ := fx_spec h k1 hfx
        have hex : c' = sCap ∧ a'.off = L.off + a.off := by
          rcases k5 with k | k | k
          · exact k.2
          · exact (k.1 f1).elim
          · exact (k.1 f1).elim
        obtain ⟨rfl, hoff⟩ := hex
        have ha : ARel W.heap.size φ a a' := ⟨L, k1, k2, hoff, k3, k4⟩
        split at e
        · rename_i hroom
          split at e
          · rename_i S1 hput
            cases e
            obtain ⟨w', r, p, q⟩ := put_sound (P := P) h (ha.add (sLen * ie.size)) hnew hput
            have hrun := append_room (ty := ty) (base := some a') (sLen := sLen) (sCap := c') t0 t1 hu hi hz hzs (hSrc w rfl) hroom (w' := w') (fun b hb => by cases hb; exact r) (fun hb => by cases hb)
            exact ⟨φ, _, w', hrun, .sl ⟨L, k1, k2, k3, k4, .inl ⟨f1, rfl, hoff⟩⟩, p, q⟩
          · cases e
        · rename_i hroom
          split at e
          · rename_i old hold
            cases e
            have hfree := hf (Nat.lt_succ_self _)
            obtain ⟨l', r1, r2, r3⟩ := cells_sound h ha hold
            obtain ⟨cap, hc, hrun⟩ := append_grow (ty := ty) (base := some a') (sLen := sLen) (sCap := c') (old := l'.toArray) t0 t1 hu hi hz hzs hSrc hroom hbp hbound (by
              simp only [Builtin.firstCells]
              refine runLoadCells (r1.1.symm.trans r2) (fun j v hv => ?_)
              exact r3 j v hv)
            obtain ⟨φ', hv, hpost⟩ := grown_post (e := el) (sLen := sLen) h hfree (old' := l'.toArray) r1 hnew r2 hnl hzs hs0 hc
            exact ⟨φ', _, _, hrun, hv, hpost, AStep.newOk h _⟩
          · cases e
end
end Go.Proofs.YtnnajiaaakkjfaaDoor.E
