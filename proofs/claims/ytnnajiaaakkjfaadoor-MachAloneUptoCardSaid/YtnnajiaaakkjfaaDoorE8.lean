/- One operation of the evaluator's is the operation of the model: slices. -/
import Derived.Test.YtnnajiaaakkjfaaDoorE7
namespace Go.Proofs.YtnnajiaaakkjfaaDoor.E
open Go Go.RowKit
set_option linter.unusedVariables false

section
variable {P : Program} {W : World} {φ : Emb} {S : St} {w : World}

theorem bnd_run {x x' : Option Value} {dflt y y' r : Nat} (hx : ∀ v, x = some v → ∃ v', x' = some v' ∧ VRel W.heap.size φ v v') (c : BoundsCode) (hy : y ≤ y') (e : bnd x dflt y = some r) {v : Value} (hv : x = some v) :
    ∃ v', x' = some v' ∧ (Instr.sliceBound v' y' c).run P w = .ok r w ∧ r ≤ y := by
  obtain ⟨v', e1, e2⟩ := hx v hv
  subst hv
  unfold bnd at e
  split at e
  · contradiction
  · rename_i k n heq
    cases heq
    cases e2
    split at e
    · rename_i hlt
      cases e
      refine ⟨_, e1, ?_, by omega⟩
      unfold Instr.sliceBound
      simp only [asIntOf, Sem.run_bind, Sem.run_pure, Result.andThen_ok]
      rw [if_pos ⟨hlt.1, by omega⟩]
      rfl
    · cases e
  · cases e

def gb (x : Option Value) (d y : Nat) (c : BoundsCode) : Sem Nat := match x with | some v => Instr.sliceBound v y c | none => pure d
theorem gb_run {x x' : Option Value} {d d' y y' r : Nat} (hx : ∀ v, x = some v → ∃ v', x' = some v' ∧ VRel W.heap.size φ v v') (nx : x = none → x' = none) (c : BoundsCode) (hy : y ≤ y') (e : bnd x d y = some r) :
    (gb x' d' y' c).run P w = .ok (if x.isSome then r else d') w ∧ (x.isSome = true → r ≤ y) ∧ (x = none → r = d) := by
  cases x with
  | none => rw [nx rfl]; simp only [bnd, Option.some.injEq] at e; exact ⟨rfl, fun h => (by cases h), fun _ => e.symm⟩
  | some v =>
    obtain ⟨v', a, b, d⟩ := bnd_run (P := P) (w := w) hx c hy e rfl
    rw [a]
    exact ⟨b, fun _ => d, fun h => (by cases h)⟩
def gh (len : Nat) (x mx : Option Value) (y : Nat) (c1 c2 : BoundsCode) : Sem Nat :=
  match x, mx with
  | some v, some _ => Instr.sliceBound v y c1
  | some v, none => Instr.sliceBound v y c2
  | none, none => pure len
  | none, some _ => stuck "Slice: max without high"
theorem sliceBounds_eq (isS : Bool) (len cap : Nat) (lo hi mx : Option Value) : Instr.sliceBounds isS len cap lo hi mx =
    (gb mx cap cap (if isS then .slice3Acap else .slice3Alen)).bind fun m => (gh len hi mx m .slice3B (if isS then .sliceAcap else .sliceAlen)).bind fun h => (gb lo 0 h (if mx.isSome then .slice3C else .sliceB)).bind fun l => .pure (l, h, m) := by
  cases lo <;> cases hi <;> cases mx <;> rfl

/-- The bounds of a cut: what the evaluator reckons, the model reckons, at a capacity that may be greater. -/
theorem bounds_run {len cap cap' l h m : Nat} {isS : Bool} {lo lo' hi hi' mx mx' : Option Value} (hlo : ∀ v, lo = some v → ∃ v', lo' = some v' ∧ VRel W.heap.size φ v v') (nlo : lo = none → lo' = none)
    (hhi : ∀ v, hi = some v → ∃ v', hi' = some v' ∧ VRel W.heap.size φ v v') (nhi : hi = none → hi' = none) (hmx : ∀ v, mx = some v → ∃ v', mx' = some v' ∧ VRel W.heap.size φ v v') (nmx : mx = none → mx' = none)
    (hc : cap ≤ cap') (e : aBounds len cap lo hi mx = some (l, h, m)) :
    ∃ m', (Instr.sliceBounds isS len cap' lo' hi' mx').run P w = .ok (l, h, m') w ∧ l ≤ h ∧ h ≤ m ∧ m ≤ cap ∧ (mx.isSome = true → m' = m) ∧ (mx = none → m = cap ∧ m' = cap') := by
  unfold aBounds at e
  split at e
  · cases e
  rename_i m0 hm
  split at e
  · cases e
  rename_i h0 hh
  split at e
  · cases e
  rename_i l0 hl
  simp only [Option.some.injEq, Prod.mk.injEq] at e
  obtain ⟨e1, e2, e3⟩ := e
  subst e1 e2 e3
  obtain ⟨a1, a2, a3⟩ := gb_run (P := P) (w := w) (d' := cap') hmx nmx (if isS then .slice3Acap else .slice3Alen) hc hm
  obtain ⟨c1, c2, c3⟩ := gb_run (P := P) (w := w) (d' := 0) hlo nlo (if mx'.isSome then .slice3C else .sliceB) (Nat.le_refl h0) hl
  have c1' : (gb lo' 0 h0 (if mx'.isSome then .slice3C else .sliceB)).run P w = .ok l0 w := by
    rw [c1]
    cases lo with
    | none => rw [c3 rfl]; rfl
    | some _ => rfl
  have hlh : l0 ≤ h0 := by
    cases lo with
    | none => rw [c3 rfl]; exact Nat.zero_le _
    | some _ => exact c2 rfl
  have hmc : m0 ≤ cap := by
    cases mx with
    | none => rw [a3 rfl]; exact Nat.le_refl _
    | some _ => exact a2 rfl
  have hmm : m0 ≤ (if mx.isSome then m0 else cap') := by split <;> omega
  have b1 : (gh len hi' mx' (if mx.isSome then m0 else cap') .slice3B (if isS then .sliceAcap else .sliceAlen)).run P w = .ok h0 w ∧ h0 ≤ m0 := by
    cases hi with
    | none =>
      cases mx with
      | none =>
        rw [nhi rfl, nmx rfl]
        dsimp only at hh
        split at hh
        · cases hh; exact ⟨rfl, by assumption⟩
        · cases hh
      | some _ => cases hh
    | some v =>
      dsimp only at hh
      cases mx with
      | none =>
        obtain ⟨v', a, b, d⟩ := bnd_run (P := P) (w := w) hhi (if isS then .sliceAcap else .sliceAlen) hmm hh rfl
        rw [a, nmx rfl]
        exact ⟨b, d⟩
      | some x =>
        obtain ⟨v', a, b, d⟩ := bnd_run (P := P) (w := w) hhi .slice3B hmm hh rfl
        obtain ⟨x', a', _⟩ := hmx x rfl
        rw [a, a']
        exact ⟨b, d⟩
  refine ⟨if mx.isSome then m0 else cap', ?_, hlh, b1.2, hmc, fun h => if_pos h, fun h => ⟨a3 h, by rw [h]; rfl⟩⟩
  rw [sliceBounds_eq, Sem.run_bind', a1, Result.andThen_ok, Sem.run_bind', b1.1, Result.andThen_ok, Sem.run_bind', c1']
  rfl

theorem isZ_mk {b o : Nat} (h : W.heap.size ≤ b) : isZ W ⟨b, o, some 0⟩ = true := by
  unfold isZ; simp [h]
theorem fx_spec (h : Rel W φ S w) {a : Addr} {k : Nat} {L : Loc} (hφ : φ a.block = some L) (e : S.fx W a = some k) : L.esz = k ∧ (k ≠ 0 → W.heap.size ≤ a.block ∧ ∃ cs, S.heap a.block = .row cs k) := by
  unfold St.fx at e
  split at e
  · rename_i hb
    cases e
    rw [h.base _ hb] at hφ
    cases hφ
    exact ⟨rfl, fun h => absurd rfl h⟩
  · rename_i hb
    split at e
    · rename_i cs kk hh
      cases e
      obtain ⟨b1, b2, b3⟩ := h.blk _ L hφ (by omega)
      rw [hh] at b3
      obtain ⟨C, ee, fr, c1, c2, c3, c4, c5, c6⟩ := b3
      exact ⟨c3, fun _ => ⟨by omega, cs, hh⟩⟩
    · cases e

theorem all_flat {x : Option Value} (h : x.all flat = true) {x' : Option Value} (hx : ∀ v, x = some v → ∃ v', x' = some v' ∧ VRel W.heap.size φ v v') (nx : x = none → x' = none) : x' = x := by
  cases x with
  | none => exact nx rfl
  | some v =>
    obtain ⟨v', a, b⟩ := hx v rfl
    rw [a, flat_eq (by simpa using h) b]

theorem does_slice (h : Rel W φ S w) {t : TypeId} {x x' v : Value} {lo lo' hi hi' mx mx' : Option Value} (hx : VRel W.heap.size φ x x') (hlo : ∀ v, lo = some v → ∃ v', lo' = some v' ∧ VRel W.heap.size φ v v') (nlo : lo = none → lo' = none)
    (hhi : ∀ v, hi = some v → ∃ v', hi' = some v' ∧ VRel W.heap.size φ v v') (nhi : hi = none → hi' = none) (hmx : ∀ v, mx = some v → ∃ v', mx' = some v' ∧ VRel W.heap.size φ v v') (nmx : mx = none → mx' = none)
    (e : aSlice P W S t x lo hi mx = some v) : Does P W φ S w (Instr.sliceAt t x' lo' hi' mx') v S := by
  have flatcase : flat x = true → (if lo.all flat && hi.all flat && mx.all flat then stillF P (Instr.sliceAt t x lo hi mx) else none) = some v → Does P W φ S w (Instr.sliceAt t x' lo' hi' mx') v S := by
    intro hfx e
    split at e
    · rename_i hc
      simp only [Bool.and_eq_true] at hc
      rw [flat_eq hfx hx, all_flat hc.1.1 hlo nlo, all_flat hc.1.2 hhi nhi, all_flat hc.2 hmx nmx]
      exact Does.stillF h e
    · cases e
  unfold aSlice at e
  split at e
  · rename_i a len cap
    split at e
    · cases e
    rename_i hZ
    split at e
    · rename_i el hu
      split at e
      · rename_i n kx l hh m hn hfx hb
        split at e
        rotate_left
        · cases e
        rename_i hkn
        cases e
        have fits : ∀ {o c t mm : Nat}, l ≤ mm → mm ≤ c → kx = n → o + c * kx ≤ t → o + l * n + (mm - l) * kx ≤ t := by
          intro o c t mm h1 h2 h3 h4
          subst h3
          have e1 : l * kx + (mm - l) * kx = mm * kx := by rw [← Nat.add_mul]; congr 1; omega
          have e2 : mm * kx ≤ c * kx := Nat.mul_le_mul_right _ h2
          omega
        cases hx with
        | sl0 hNb => exact absurd (isZ_mk hNb) hZ
        | sl hsl =>
          rename_i a' c'
          obtain ⟨L, k1, k2, k3, k4, k5⟩ := hsl
          obtain ⟨f1, f2⟩ := fx_spec h k1 hfx
          have hcc : cap ≤ c' := by rcases k5 with k | k | k <;> omega
          obtain ⟨m', r1, r2, r3, r4, r5, r6⟩ := bounds_run (P := P) (w := w) (isS := true) hlo nlo hhi nhi hmx nmx hcc hb
          refine Does.same h (v' := .slice (if m' = l then some a' else (some a').map (·.add (l * n))) (hh - l) (m' - l)) ?_ ?_
          · unfold Instr.sliceAt
            rw [run_bind_ok (run_und hu w)]
            dsimp only
            unfold Instr.slice
            rw [run_bind_ok (run_und hu w)]
            dsimp only
            rw [run_bind_ok r1]
            dsimp only
            rw [run_bind_ok (run_size hn w)]
            rfl
          · have e2 : (if m' = l then some a' else (some a').map (·.add (l * n))) = some (if m' = l then a' else a'.add (l * n)) := by split <;> rfl
            rw [e2]
            by_cases hk : kx = 0
            · have hc' : c' = cap ∧ a'.off = L.off + a.off := by
                rcases k5 with k | k | k
                · exact k.2
                · exact (k.1 (f1.trans hk)).elim
                · exact (k.1 (f1.trans hk)).elim
              have hmm : m' = m := by
                cases mx with
                | none => have := r6 rfl; omega
                | some _ => exact r5 rfl
              have ha : ARel W.heap.size φ a a' := ⟨L, k1, k2, hc'.2, k3, k4⟩
              rw [hmm]
              rw [if_neg (fun h => h.2.1 hk)]
              by_cases hml : m = l
              · rw [if_pos ⟨hml, hk⟩, if_pos hml]
                exact .sl ⟨L, k1, k2, k3, k4, .inl ⟨f1.trans hk, rfl, hc'.2⟩⟩
              · rw [if_neg (fun h => hml h.1), if_neg hml]
                obtain ⟨L2, q1, q2, q3, q4, q5⟩ := ha.add (l * n)
                rw [add_block, k1] at q1
                cases q1
                exact .sl ⟨L, by rw [add_block]; exact k1, q2, q4, q5, .inl ⟨f1.trans hk, rfl, q3⟩⟩
            · have hL : L.esz ≠ 0 := by rw [f1]; exact hk
              have hNa := (f2 hk).1
              have k5 := k5.resolve_left (fun k => hL k.1)
              cases mx with
              | some mv =>
                have hmm := r5 rfl
                rw [hmm]
                by_cases hml : m = l
                · rw [if_pos ⟨hml, hk, rfl⟩, if_pos hml]
                  have hl0 : hh - l = 0 ∧ m - l = 0 := by omega
                  rw [hl0.1, hl0.2]
                  exact .sl0 hNa
                · rw [if_neg (fun h => hml h.1), if_neg (fun h => hml h.1), if_neg hml]
                  rcases k5 with k | k
                  · obtain ⟨L2, q1, q2, q3, q4, q5⟩ := ARel.add (φ := φ) (a := a) (a' := a') ⟨L, k1, k2, k.2.2.1, k3, k4⟩ (l * n)
                    rw [add_block, k1] at q1
                    cases q1
                    refine .sl ⟨L, by rw [add_block]; exact k1, q2, q4, q5, ?_⟩
                    by_cases hz : m - l = 0
                    · refine .inr (.inr ⟨hL, by omega, hz, hz⟩)
                    · refine .inr (.inl ⟨hL, Nat.le_refl _, q3, ?_⟩)
                      rw [add_off, f1]
                      exact fits (by omega) (by omega) (hkn.resolve_left hk) (f1 ▸ k.2.2.2)
                  · omega
              | none =>
                obtain ⟨hm1, hm2⟩ := r6 rfl
                rw [if_neg (fun h => by have := h.2.2; cases this), if_neg (fun h => hk h.2)]
                subst hm1 hm2
                rcases k5 with k | k
                · obtain ⟨L2, q1, q2, q3, q4, q5⟩ := ARel.add (φ := φ) (a := a) (a' := a') ⟨L, k1, k2, k.2.2.1, k3, k4⟩ (l * n)
                  rw [add_block, k1] at q1
                  cases q1
                  by_cases hml : m' = l
                  · rw [if_pos hml]
                    have hl0 : hh - l = 0 ∧ m - l = 0 ∧ m' - l = 0 := by omega
                    rw [hl0.1, hl0.2.1, hl0.2.2]
                    exact .sl ⟨L, by rw [add_block]; exact k1, k2, by rw [k3, add_spot, k4 hNa]; split <;> rfl, q5, .inr (.inr ⟨hL, rfl, rfl, rfl⟩)⟩
                  · rw [if_neg hml]
                    refine .sl ⟨L, by rw [add_block]; exact k1, q2, q4, q5, .inr (.inl ⟨hL, by omega, q3, ?_⟩)⟩
                    rw [add_off, f1]
                    exact fits (by omega) (Nat.le_refl _) (hkn.resolve_left hk) (f1 ▸ k.2.2.2)
                · have hl0 : hh - l = 0 ∧ m - l = 0 ∧ m' - l = 0 := by omega
                  rw [hl0.1, hl0.2.1, hl0.2.2]
                  refine .sl ⟨L, by rw [add_block]; exact k1, by split <;> simp [add_block, k2], ?_, fun hh => by rw [add_spot, k4 hNa]; split <;> rfl, .inr (.inr ⟨hL, rfl, rfl, rfl⟩)⟩
                  rw [add_spot, k4 hNa]
                  split
                  · rw [k3, k4 hNa]; split <;> rfl
                  · rw [add_spot, k3, k4 hNa]
      · cases e
    · cases e
  · rename_i a
    split at e
    · rename_i n el hu
      split at e
      · rename_i k l hh m hn hfx hb
        cases e
        cases hx with
        | ptr ha =>
          rename_i a'
          obtain ⟨m', r1, r2, r3, r4, r5, r6⟩ := bounds_run (P := P) (w := w) (isS := false) hlo nlo hhi nhi hmx nmx (Nat.le_refl _) hb
          have hmm : m' = m := by
            cases mx with
            | none => have := r6 rfl; omega
            | some _ => exact r5 rfl
          subst hmm
          obtain ⟨L, k1, k2, k3, k4, k5⟩ := ha
          obtain ⟨f1, f2⟩ := fx_spec h k1 hfx
          refine Does.same h (v' := .slice (some (if m' = l then a' else a'.add (l * k))) (hh - l) (m' - l)) ?_ ?_
          · unfold Instr.sliceAt
            rw [run_bind_ok (run_und hu w)]
            dsimp only [Instr.sureAddr]
            rw [run_bind_ok (runPure _ _), run_bind_ok r1]
            dsimp only
            rw [run_bind_ok (run_size hn w)]
            rfl
          · by_cases hml : m' = l
            · rw [if_pos hml, if_pos hml]
              exact .sl ⟨L, k1, k2, k4, k5, .inl ⟨f1, rfl, k3⟩⟩
            · rw [if_neg hml, if_neg hml]
              obtain ⟨L2, q1, q2, q3, q4, q5⟩ := ARel.add (φ := φ) (a := a) (a' := a') ⟨L, k1, k2, k3, k4, k5⟩ (l * k)
              rw [add_block, k1] at q1
              cases q1
              exact .sl ⟨L, by rw [add_block]; exact k1, q2, q4, q5, .inl ⟨f1, rfl, q3⟩⟩
      · cases e
    · cases e
  · cases hx; exact flatcase rfl e
  · cases hx; exact flatcase rfl e
  · cases e
end
end Go.Proofs.YtnnajiaaakkjfaaDoor.E
