/- The evaluator without bounds: what it answers with some bound, and its equations. -/
import Derived.Test.YtnnajiaaakkjfaaDoorE17
namespace Go.Proofs.YtnnajiaaakkjfaaDoor.E
open Go Go.RowKit
set_option linter.unusedVariables false

noncomputable def lim {α : Type} (s : Nat → Option α) : Option α :=
  @dite _ (∃ r k, s k = some r) (Classical.propDecidable _) (fun h => some (Classical.choose h)) (fun _ => none)
def Mono {α : Type} (s : Nat → Option α) : Prop := ∀ k r, s k = some r → s (k + 1) = some r
theorem Mono.le {α : Type} {s : Nat → Option α} (h : Mono s) {k j : Nat} (hkj : k ≤ j) {r : α} (e : s k = some r) : s j = some r := by
  induction j with
  | zero => have : k = 0 := by omega
            subst this; exact e
  | succ j ih =>
    by_cases hk : k = j + 1
    · subst hk; exact e
    · exact h _ _ (ih (by omega))
theorem lim_iff {α : Type} {s : Nat → Option α} (h : Mono s) {r : α} : lim s = some r ↔ ∃ k, s k = some r := by
  unfold lim
  constructor
  · intro e
    split at e
    · rename_i hx
      cases e
      exact Classical.choose_spec hx
    · cases e
  · rintro ⟨k, hk⟩
    have hx : ∃ r k, s k = some r := ⟨r, k, hk⟩
    rw [dif_pos hx]
    obtain ⟨j, hj⟩ := Classical.choose_spec hx
    have a := h.le (Nat.le_max_left k j) hk
    have b := h.le (Nat.le_max_right k j) hj
    rw [a] at b
    exact b.symm
theorem opt_ext {α : Type} {x y : Option α} (h : ∀ r, x = some r ↔ y = some r) : x = y := by
  cases x with
  | none =>
    cases y with
    | none => rfl
    | some b => have := (h b).2 rfl; cases this
  | some a => exact ((h a).1 rfl).symm

def CLe (C C' : Caller) : Prop := ∀ f args S r, C f args S = some r → C' f args S = some r
def BLe (b b' : Act → St → Out) : Prop := ∀ A S r, b A S = some r → b' A S = some r
def LLe (L L' : Looper) : Prop := ∀ b b', BLe b b' → BLe (L b) (L' b')

section
variable {P : Program} {W : World} {G : FuncId → Bool}

theorem opStep_le {C C' : Caller} (h : CLe C C') {ρ : Operand → Value} {o : Oper} {S : St} {r : Value × St} (e : opStep P W C ρ o S = some r) : opStep P W C' ρ o S = some r := by
  obtain ⟨dst, op, ty, pos, after, guard⟩ := o
  cases op <;> first | exact e | skip
  rename_i c
  obtain ⟨cal, args, ts⟩ := c
  cases cal with
  | value f =>
    simp only [opStep] at e ⊢
    unfold aCall at e ⊢
    split at e
    · split at e
      · rename_i hg; rw [if_pos hg]; exact h _ _ _ _ e
      · cases e
    · cases e
  | _ => exact e
theorem stepC_le {C C' : Caller} (h : CLe C C') {ops : Array Oper} {x : Oper × Bool} {r q : Act × St} (e : stepC P W C ops x r = some q) : stepC P W C' ops x r = some q := by
  unfold stepC at e ⊢
  split at e
  · cases e
  · rename_i hg
    rw [if_neg hg]
    split at e
    · rename_i hw
      rw [if_pos hw]
      split at e
      · rename_i v S' h1
        have : (if x.2 then unlock r.2.lock (opStep P W C' r.1.eval x.1 (r.2.relock r.2.c)) else opStep P W C' r.1.eval x.1 r.2) = some (v, S') := by
          by_cases hq : x.2 = true
          · rw [if_pos hq] at h1 ⊢
            obtain ⟨S2, h2, rfl⟩ := unlock_spec h1
            rw [opStep_le h h2]; rfl
          · rw [if_neg hq] at h1 ⊢
            exact opStep_le h h1
        rw [this]
        exact e
      · cases e
    · rename_i hw
      rw [if_neg hw]; exact e
theorem opsC_le {C C' : Caller} (h : CLe C C') {ops : Array Oper} : ∀ {l : List (Oper × Bool)} {A : Act} {S : St} {q : Act × St}, opsC P W C ops l A S = some q → opsC P W C' ops l A S = some q
  | [], A, S, q, e => e
  | x :: l, A, S, q, e => by
    rw [opsC_cons] at e ⊢
    cases h1 : stepC P W C ops x (A, S) with
    | none => rw [h1] at e; cases e
    | some r => rw [h1] at e; rw [stepC_le h h1]; exact opsC_le h e
theorem regC_le {C C' : Caller} (h : CLe C C') {ops : Array Oper} {draw : Bool} {A : Act} {S : St} {q : Act × St} (e : regC P W C ops draw A S = some q) : regC P W C' ops draw A S = some q := by
  unfold regC at e ⊢
  split at e
  · rename_i hc; rw [if_pos hc]; exact opsC_le h e
  · cases e
theorem clrOut_le {ts : List Tmp} {f g : Act → St → Out} (h : BLe f g) : BLe (fun A S => clrOut ts (f A S)) (fun A S => clrOut ts (g A S)) := by
  intro A S r e
  cases hf : f A S with
  | none => simp only [hf] at e; cases e
  | some x => simp only [hf] at e; simp only [h _ _ _ hf]; exact e
theorem codeC_le {C C' : Caller} {L L' : Looper} (h : CLe C C') (hL : LLe L L') : ∀ c : Code, BLe (codeC P W C L c) (codeC P W C' L' c) := by
  intro c
  induction c with
  | region id ops draw =>
    intro A S r e
    simp only [codeC] at e ⊢
    split at e
    · rename_i h1; rw [regC_le h h1]; exact e
    · cases e
  | seq a b iha ihb =>
    intro A S r e
    simp only [codeC] at e ⊢
    cases h1 : codeC P W C L a A S with
    | none => rw [h1] at e; cases e
    | some x =>
      rw [h1] at e
      rw [iha _ _ _ h1]
      obtain ⟨ex, A1, S1⟩ := x
      cases ex <;> first | exact ihb _ _ _ e | exact e
  | cond c a b iha ihb =>
    intro A S r e
    simp only [codeC] at e ⊢
    split at e
    · exact iha _ _ _ e
    · exact ihb _ _ _ e
    · cases e
  | block id a iha =>
    intro A S r e
    simp only [codeC] at e ⊢
    cases h1 : codeC P W C L a A S with
    | none => rw [h1] at e; cases e
    | some x => rw [h1] at e; rw [iha _ _ _ h1]; exact e
  | loop a iha =>
    intro A S r e
    simp only [codeC] at e ⊢
    exact hL _ _ (clrOut_le iha) _ _ _ e
  | scope a iha =>
    intro A S r e
    simp only [codeC] at e ⊢
    cases h1 : codeC P W C L a A S with
    | none => rw [h1] at e; cases e
    | some x => rw [h1] at e; rw [iha _ _ _ h1]; exact e
  | _ => intro A S r e; exact e

theorem loopN_le {n n' : Nat} (hn : n ≤ n') : LLe (fun b => loopN b n) (fun b => loopN b n') := by
  intro b b' hb
  induction n generalizing n' with
  | zero => intro A S r e; cases e
  | succ n ih =>
    obtain ⟨m, rfl⟩ : ∃ m, n' = m + 1 := ⟨n' - 1, by omega⟩
    intro A S r e
    simp only [loopN] at e ⊢
    cases h1 : b A S with
    | none => rw [h1] at e; cases e
    | some x =>
      rw [h1] at e
      rw [hb _ _ _ h1]
      obtain ⟨ex, A1, S1⟩ := x
      cases ex <;> first | exact ih (by omega : n ≤ m) _ _ _ e | exact e
theorem ble_refl (b : Act → St → Out) : BLe b b := fun _ _ _ e => e

theorem bodyC_le {C C' : Caller} {L L' : Looper} (h : CLe C C') (hL : LLe L L') : CLe (bodyC P W C L) (bodyC P W C' L') := by
  intro f args S r e
  unfold bodyC at e ⊢
  split at e
  · rename_i fn hfn
    try rw [hfn]
    try dsimp only
    split at e
    · rename_i c hc
      try rw [hc]
      try dsimp only
      cases h1 : codeC P W C L c { tmps := args ++ Array.replicate (fn.ntmps - args.size) undef, defers := [] } S with
      | none => rw [h1] at e; cases e
      | some x => rw [h1] at e; rw [codeC_le h hL _ _ _ _ h1]; exact e
    · cases e
  · cases e
theorem gcB_le {on : Bool} {args : Array Value} {S : St} {x y : Option (Value × St)} (h : ∀ r, x = some r → y = some r) {r : Value × St} (e : gcB on args S x = some r) : gcB on args S y = some r := by
  cases x with
  | none => cases on <;> cases e
  | some z => rw [h z rfl]; exact e
theorem callN_mono (k : Nat) : CLe (callN P W G k) (callN P W G (k + 1)) := by
  induction k with
  | zero => intro f args S r e; cases e
  | succ k ih =>
    intro f args S r e
    exact gcB_le (fun r e => bodyC_le ih (loopN_le (Nat.le_succ k)) f args S r e) e
variable (P W G)
noncomputable def callW : Caller := fun f args S => lim fun k => callN P W G k f args S
variable {P W G}
noncomputable def loopW : Looper := fun b A S => lim fun n => loopN b n A S
theorem callW_iff {f : FuncId} {args : Array Value} {S : St} {r : Value × St} : callW P W G f args S = some r ↔ ∃ k, callN P W G k f args S = some r := lim_iff fun k r e => callN_mono k f args S r e
theorem loopW_iff {b : Act → St → Out} {A : Act} {S : St} {r : Exit × Act × St} : loopW b A S = some r ↔ ∃ n, loopN b n A S = some r := lim_iff fun n r e => loopN_le (Nat.le_succ n) b b (ble_refl b) A S r e
theorem callN_W (k : Nat) : CLe (callN P W G k) (callW P W G) := fun f args S r e => callW_iff.2 ⟨k, e⟩
theorem callN_le {k j : Nat} (h : k ≤ j) : CLe (callN P W G k) (callN P W G j) := fun f args S r e => Mono.le (s := fun k => callN P W G k f args S) (fun k r e => callN_mono k f args S r e) h e
theorem loopN_W (n : Nat) : LLe (fun b => loopN b n) loopW := fun b b' hb A S r e => loopW_iff.2 ⟨n, loopN_le (Nat.le_refl n) b b' hb A S r e⟩

/-! What is reckoned without bounds is reckoned with some. -/
theorem step_ev {ops : Array Oper} {x : Oper × Bool} {r q : Act × St} (e : stepC P W (callW P W G) ops x r = some q) : ∃ k, stepC P W (callN P W G k) ops x r = some q := by
  obtain ⟨⟨dst, op, ty, pos, after, guard⟩, fl⟩ := x
  by_cases hc : ∃ c f, op = .call c ∧ c.callee = .value f
  · obtain ⟨⟨cal, args, ts⟩, f, rfl, hcal⟩ := hc
    dsimp only at hcal
    subst hcal
    have op_ev : ∀ (ρ : Operand → Value) (S : St) (y : Value × St), opStep P W (callW P W G) ρ { dst, op := .call { callee := .value f, args, argTypes := ts }, type := ty, pos, after, guard } S = some y → ∃ k, opStep P W (callN P W G k) ρ { dst, op := .call { callee := .value f, args, argTypes := ts }, type := ty, pos, after, guard } S = some y := by
      intro ρ S y h
      simp only [opStep] at h ⊢
      unfold aCall at h ⊢
      split at h
      · split at h
        · rename_i hg
          obtain ⟨k, hk⟩ := callW_iff.1 h
          exact ⟨k, by rw [if_pos hg]; exact hk⟩
        · cases h
      · cases h
    unfold stepC at e ⊢
    dsimp only at e ⊢
    split at e
    · cases e
    rename_i hg
    split at e
    · rename_i hw
      split at e
      · rename_i v S' h1
        have : ∃ k, (if fl then unlock r.2.lock (opStep P W (callN P W G k) r.1.eval { dst, op := .call { callee := .value f, args, argTypes := ts }, type := ty, pos, after, guard } (r.2.relock r.2.c)) else opStep P W (callN P W G k) r.1.eval { dst, op := .call { callee := .value f, args, argTypes := ts }, type := ty, pos, after, guard } r.2) = some (v, S') := by
          by_cases hq : fl = true
          · rw [if_pos hq] at h1
            obtain ⟨S2, h2, rfl⟩ := unlock_spec h1
            obtain ⟨k, hk⟩ := op_ev _ _ _ h2
            exact ⟨k, by rw [if_pos hq, hk]; rfl⟩
          · rw [if_neg hq] at h1
            obtain ⟨k, hk⟩ := op_ev _ _ _ h1
            exact ⟨k, by rw [if_neg hq]; exact hk⟩
        obtain ⟨k, hk⟩ := this
        exact ⟨k, by rw [if_neg hg, if_pos hw, hk]; exact e⟩
      · cases e
    · rename_i hw
      exact ⟨0, by rw [if_neg hg, if_neg hw]; exact e⟩
  · refine ⟨0, ?_⟩
    have same : ∀ (ρ : Operand → Value) (S : St), opStep P W (callW P W G) ρ { dst, op, type := ty, pos, after, guard } S = opStep P W (callN P W G 0) ρ { dst, op, type := ty, pos, after, guard } S := by
      intro ρ S
      cases op <;> first | rfl | skip
      rename_i c
      obtain ⟨cal, args, ts⟩ := c
      cases cal with
      | value f => exact (hc ⟨_, f, rfl, rfl⟩).elim
      | _ => rfl
    unfold stepC at e ⊢
    simp only [same] at e
    exact e
theorem ops_ev {ops : Array Oper} : ∀ {l : List (Oper × Bool)} {A : Act} {S : St} {q : Act × St}, opsC P W (callW P W G) ops l A S = some q → ∃ k, opsC P W (callN P W G k) ops l A S = some q
  | [], A, S, q, e => ⟨0, e⟩
  | x :: l, A, S, q, e => by
    rw [opsC_cons] at e
    cases h1 : stepC P W (callW P W G) ops x (A, S) with
    | none => rw [h1] at e; cases e
    | some r =>
      rw [h1] at e
      obtain ⟨k1, e1⟩ := step_ev h1
      obtain ⟨k2, e2⟩ := ops_ev e
      refine ⟨max k1 k2, ?_⟩
      rw [opsC_cons, stepC_le (callN_le (Nat.le_max_left k1 k2)) e1]
      exact opsC_le (callN_le (Nat.le_max_right k1 k2)) e2
noncomputable def Kode (P : Program) (W : World) (G : FuncId → Bool) (k : Nat) (c : Code) : Act → St → Out := codeC P W (callN P W G k) (fun b => loopN b k) c
theorem kode_le {k j : Nat} (h : k ≤ j) (c : Code) : BLe (Kode P W G k c) (Kode P W G j c) := codeC_le (callN_le h) (loopN_le h) c
theorem code_ev : ∀ (c : Code) (A : Act) (S : St) (r : Exit × Act × St), codeC P W (callW P W G) loopW c A S = some r → ∃ k, Kode P W G k c A S = some r := by
  intro c
  induction c with
  | region id ops draw =>
    intro A S r e
    simp only [codeC] at e
    split at e
    · rename_i h1
      unfold regC at h1
      split at h1
      · rename_i hc
        obtain ⟨k, hk⟩ := ops_ev h1
        refine ⟨k, ?_⟩
        simp only [Kode, codeC]
        unfold regC
        rw [if_pos hc, hk]
        exact e
      · cases h1
    · cases e
  | seq a b iha ihb =>
    intro A S r e
    simp only [codeC] at e
    cases h1 : codeC P W (callW P W G) loopW a A S with
    | none => rw [h1] at e; cases e
    | some x =>
      rw [h1] at e
      obtain ⟨k1, e1⟩ := iha _ _ _ h1
      obtain ⟨ex, A1, S1⟩ := x
      by_cases hex : ex = .normal
      · subst hex
        obtain ⟨k2, e2⟩ := ihb _ _ _ e
        refine ⟨max k1 k2, ?_⟩
        have a1 := kode_le (Nat.le_max_left k1 k2) a _ _ _ e1
        have a2 := kode_le (Nat.le_max_right k1 k2) b _ _ _ e2
        simp only [Kode, codeC] at a1 a2 ⊢
        rw [a1]
        exact a2
      · refine ⟨k1, ?_⟩
        simp only [Kode, codeC] at e1 ⊢
        rw [e1]
        cases ex <;> first | exact (hex rfl).elim | exact e
  | cond c a b iha ihb =>
    intro A S r e
    simp only [codeC] at e
    split at e
    · rename_i hc
      obtain ⟨k, hk⟩ := iha _ _ _ e
      refine ⟨k, ?_⟩
      simp only [Kode, codeC, hc] at hk ⊢
      exact hk
    · rename_i hc
      obtain ⟨k, hk⟩ := ihb _ _ _ e
      refine ⟨k, ?_⟩
      simp only [Kode, codeC, hc] at hk ⊢
      exact hk
    · cases e
  | block id a iha =>
    intro A S r e
    simp only [codeC] at e
    cases h1 : codeC P W (callW P W G) loopW a A S with
    | none => rw [h1] at e; cases e
    | some x =>
      rw [h1] at e
      obtain ⟨k, hk⟩ := iha _ _ _ h1
      refine ⟨k, ?_⟩
      simp only [Kode, codeC] at hk ⊢
      rw [hk]
      exact e
  | loop a iha =>
    intro A S r e
    simp only [codeC] at e
    obtain ⟨n, hn⟩ := loopW_iff.1 e
    have : ∀ (n : Nat) (A : Act) (S : St) (r : Exit × Act × St), loopN (fun A S => clrOut (deadIn a) (codeC P W (callW P W G) loopW a A S)) n A S = some r → ∃ k, loopN (fun A S => clrOut (deadIn a) (Kode P W G k a A S)) n A S = some r := by
      intro n
      induction n with
      | zero => intro A S r e; cases e
      | succ n ih =>
        intro A S r e
        simp only [loopN] at e
        cases h1 : codeC P W (callW P W G) loopW a A S with
        | none => rw [h1] at e; cases e
        | some x =>
          rw [h1] at e
          obtain ⟨k1, e1⟩ := iha _ _ _ h1
          obtain ⟨ex, A1, S1⟩ := x
          by_cases hex : ex = .normal
          · subst hex
            obtain ⟨k2, e2⟩ := ih _ _ _ e
            refine ⟨max k1 k2, ?_⟩
            have a1 := kode_le (Nat.le_max_left k1 k2) a _ _ _ e1
            have a2 := loopN_le (Nat.le_refl n) _ _ (clrOut_le (ts := deadIn a) (kode_le (Nat.le_max_right k1 k2) a)) _ _ _ e2
            simp only [loopN]
            rw [a1]
            exact a2
          · refine ⟨k1, ?_⟩
            simp only [loopN]
            rw [e1]
            cases ex <;> first | exact (hex rfl).elim | exact e
    obtain ⟨k, hk⟩ := this n _ _ _ hn
    refine ⟨max k n, ?_⟩
    have a1 := loopN_le (Nat.le_max_right k n) _ _ (clrOut_le (ts := deadIn a) (kode_le (Nat.le_max_left k n) a)) _ _ _ hk
    exact a1
  | scope a iha =>
    intro A S r e
    simp only [codeC] at e
    cases h1 : codeC P W (callW P W G) loopW a A S with
    | none => rw [h1] at e; cases e
    | some x =>
      rw [h1] at e
      obtain ⟨k, hk⟩ := iha _ _ _ h1
      refine ⟨k, ?_⟩
      simp only [Kode, codeC] at hk ⊢
      rw [hk]
      exact e
  | _ => intro A S r e; exact ⟨0, e⟩

/-- The evaluator without bounds answers as its function's body does. -/
theorem callW_eq (f : FuncId) (args : Array Value) (S : St) : callW P W G f args S = gcB (G f) args S (bodyC P W (callW P W G) loopW f args S) := by
  refine opt_ext fun r => ⟨fun e => ?_, fun e => ?_⟩
  · obtain ⟨k, hk⟩ := callW_iff.1 e
    cases k with
    | zero => cases hk
    | succ k => exact gcB_le (fun r e => bodyC_le (callN_W k) (loopN_W k) f args S r e) hk
  · suffices raw : ∀ r, bodyC P W (callW P W G) loopW f args S = some r → ∃ k, bodyC P W (callN P W G k) (fun b => loopN b k) f args S = some r by
      cases hb : bodyC P W (callW P W G) loopW f args S with
      | none => rw [hb] at e; generalize G f = o at e; cases o <;> cases e
      | some z =>
        obtain ⟨k, hk⟩ := raw z hb
        refine callW_iff.2 ⟨k + 1, ?_⟩
        rw [hb] at e
        simp only [callN]
        rw [hk]
        exact e
    clear e
    intro r e
    unfold bodyC at e
    split at e
    · rename_i fn hfn
      split at e
      · rename_i c hc
        cases h1 : codeC P W (callW P W G) loopW c { tmps := args ++ Array.replicate (fn.ntmps - args.size) undef, defers := [] } S with
        | none => rw [h1] at e; cases e
        | some x =>
          obtain ⟨k, hk⟩ := code_ev _ _ _ _ h1
          refine ⟨k, ?_⟩
          simp only [bodyC, hfn, hc]
          simp only [Kode] at hk
          rw [hk, ← h1]
          exact e
      · cases e
    · cases e
theorem loopW_eq (b : Act → St → Out) (A : Act) (S : St) : loopW b A S = match b A S with | some (.normal, A', S') => loopW b A' S' | r => r := by
  refine opt_ext fun r => ⟨fun e => ?_, fun e => ?_⟩
  · obtain ⟨n, hn⟩ := loopW_iff.1 e
    cases n with
    | zero => cases hn
    | succ n =>
      simp only [loopN] at hn
      split at hn
      · rename_i A1 S1 h1
        try rw [h1]
        exact loopW_iff.2 ⟨n, hn⟩
      · rename_i hne
        rw [hn]
        obtain ⟨ex, A1, S1⟩ := r
        cases ex <;> first | rfl | exact (hne _ _ hn).elim
  · split at e
    · rename_i A1 S1 h1
      obtain ⟨n, hn⟩ := loopW_iff.1 e
      exact loopW_iff.2 ⟨n + 1, by simp only [loopN, h1]; exact hn⟩
    · rename_i hne
      refine loopW_iff.2 ⟨1, ?_⟩
      simp only [loopN]
      exact e

/-! ### From a world on -/
variable (W) in
def St.start : St := { heap := fun _ => .dead, c := W.heap.size, lock := W.heap.size }
variable (W) in
/-- Values that stood in the world already. -/
def oldArg : Value → Bool
  | .agg cs => cs.all (oldV W)
  | v => oldV W v
variable (W) in
def emb0 : Emb := fun i => if i < W.heap.size then some ⟨i, 0, 0, 0⟩ else none
theorem rel0 : Rel W (emb0 W) (St.start W) W := by
  refine ⟨Below.refl _ _, fun i hi => if_pos hi, Nat.le_refl _, ⟨Nat.le_refl _, fun _ _ => rfl⟩, fun _ _ => rfl, fun i L e hi => ?_, fun i j Li Lj ei ej hi hj hne => ?_⟩
  · unfold emb0 at e; rw [if_neg (by omega)] at e; cases e
  · unfold emb0 at ei; rw [if_neg (by omega)] at ei; cases ei
theorem oldArg_rel {v : Value} (h : oldArg W v = true) : VRel W.heap.size (emb0 W) v v := by
  cases v with
  | agg cs =>
    simp only [oldArg, Array.all_eq_true_iff_forall_mem] at h
    exact .agg rfl fun i h1 h2 => oldV_rel rel0 (h _ (Array.getElem_mem h1))
  | _ => exact oldV_rel rel0 h

/-- WHAT THE EVALUATOR ANSWERS FROM THE START OF A CALL ON, THE MODEL ANSWERS; of what was there nothing has changed. -/
theorem calls_of_W (hG : P.globals.size ≤ W.heap.size) (hm : P.follows .mixedOrders = true) {f : FuncId} {args : Array Value} {b : Bool} {S' : St} (hargs : ∀ v ∈ args, oldArg W v = true)
    (e : callW P W G f args (St.start W) = some (.bool b, S')) : Calls P f args W fun e W' => e = .returned (.bool b) ∧ Below W.heap.size W W' := by
  obtain ⟨k, hk⟩ := callW_iff.1 e
  refine ((callN_sound hG hm k).2 f args _ _ _ hk (emb0 W) W args rel0 (RRel.of_pt rfl fun i h1 h2 => oldArg_rel (hargs _ (Array.getElem_mem h1))) fun i h1 h2 => ?_).mono ?_
  · have h1 : W.heap.size ≤ i := h1
    unfold emb0; rw [if_neg (by omega)]
  · rintro en W' ⟨φ', v', rfl, hv, hp⟩
    cases hv
    exact ⟨rfl, hp.rel.below⟩
end
#print axioms calls_of_W
end Go.Proofs.YtnnajiaaakkjfaaDoor.E
