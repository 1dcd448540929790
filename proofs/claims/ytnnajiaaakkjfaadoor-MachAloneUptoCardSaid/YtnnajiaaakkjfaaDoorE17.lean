/- Code and calls of the evaluator's are the model's. -/
import Derived.Test.YtnnajiaaakkjfaaDoorE16
namespace Go.Proofs.YtnnajiaaakkjfaaDoor.E
open Go Go.RowKit
set_option linter.unusedVariables false

section
variable {P : Program} {W : World} {C : Caller}

theorem regC_spec {ops : Array Oper} {draw : Bool} {A : Act} {S : St} {r : Act × St} (e : regC P W C ops draw A S = some r) :
    (∀ o ∈ ops.toList, opOk P o = true) ∧ (draw = true → regionOk ops = true) ∧ opsC P W C ops (flags ops draw) A S = some r := by
  unfold regC at e
  split at e
  · rename_i h
    simp only [Bool.and_eq_true, Bool.or_eq_true, Bool.not_eq_true', List.all_eq_true] at h
    exact ⟨h.1, fun hd => h.2.resolve_left (by rw [hd]; exact Bool.noConfusion), e⟩
  · cases e

theorem reg_sound (hA : CallerA C) (hC : CallerOk P W C) (hG : P.globals.size ≤ W.heap.size) (hm : P.follows .mixedOrders = true) {id : Nat} {ops : Array Oper} {draw : Bool} {φ : Emb} {A a A' : Act} {S S' : St} {w : World} {Q : Exit → Act → World → Prop}
    (e : regC P W C ops draw A S = some (A', S')) (h : Rel W φ S w) (ha : ActRel W.heap.size φ A a) (hf : Free φ S.c S'.c)
    (hQ : ∀ φ' a' w', ActRel W.heap.size φ' A' a' → Post W φ S w φ' S' w' → Q .normal a' w') : (Code.region id ops draw).wp P Q a w := by
  obtain ⟨h1, h2, h3⟩ := regC_spec e
  cases draw with
  | false =>
    refine wp_region ?_
    have hl : (flags ops false).map (·.1) = ops.toList.drop 0 := by
      unfold flags
      rw [List.map_map, List.drop_zero]
      refine List.ext_getElem? fun i => ?_
      rw [List.getElem?_map, List.getElem?_zipIdx]
      cases ops.toList[i]? <;> rfl
    have := seq_sound (ops := ops) hA hC hG h1 (flags ops false) 0 φ A a S w hl (fun x hx => by
      unfold flags at hx
      obtain ⟨y, _, rfl⟩ := List.mem_map.1 hx
      rfl) h3 h ha hf hQ
    rw [flags_len] at this
    rwa [List.range_eq_range']
  | true =>
    refine wp_region_any hm ?_
    have R : Row P W C ops A S A' S' := ⟨hA, hC, hG, h1, h2 rfl, h.ok, h3⟩
    have p0 := Post.drew h
    have none_listed : ∀ k, ¬ Tm (Array.replicate ops.size false) k := by
      intro k hk
      unfold Tm at hk
      rw [Array.getD_eq_getD_getElem?, Array.getElem?_replicate] at hk
      split at hk <;> simp at hk
    refine any_sound (φ0 := φ) (w0 := { w with drawn := w.drawn + 1 }) (a0 := a) R hf (fun φ' a' w' ha' hp => hQ φ' a' w' ha' (p0.trans (Nat.le_refl _) (by
      have := R.c_mono (Nat.zero_le ops.size) (Nat.le_refl _)
      rw [R.last] at this
      exact this) hp)) ops.size _ φ a _ ?_ (Nat.le_trans List.countP_le_length (by rw [List.length_range]; exact Nat.le_refl _))
    obtain ⟨e', n1, n2, n3, n4⟩ := next_loud (ops := ops) (Array.replicate ops.size false) 0 (Nat.zero_le _)
    refine ⟨by simp, fun k hk => (none_listed k hk).elim, ⟨e', n2, fun k hk hl => n3 k (Nat.zero_le _) hk hl, n4, ?_⟩, fun i L ei => .inl ei, ha.1.size.symm, ha.2, fun t => .inr ⟨fun k' o' hk' => (none_listed k' hk').elim, ha.1.getD t⟩⟩
    refine Post.lift R n1 n2 (fun m m1 m2 hl => none_listed m (n3 m m1 m2 hl)) (Post.refl p0.rel) fun i L ei => ?_
    show i < S.c ∨ S'.c ≤ i
    rcases Nat.lt_or_ge i S.c with hi | hi
    · exact .inl hi
    · rcases Nat.lt_or_ge i S'.c with hi' | hi'
      · rw [hf i hi hi'] at ei; cases ei
      · exact .inr hi'

theorem reg_astep (hA : CallerA C) {ops : Array Oper} {draw : Bool} {A A' : Act} {S S' : St} (ok : Ok S) (e : regC P W C ops draw A S = some (A', S')) : AStep S S' :=
  opsC_astep hA ok (regC_spec e).2.2

/-- What a body does to the evaluator's memory. -/
def BodyA (f : Act → St → Out) : Prop := ∀ A S e A' S', Ok S → f A S = some (e, A', S') → AStep S S'
theorem loopN_astep {f : Act → St → Out} (hf : BodyA f) : ∀ n, BodyA (loopN f n)
  | 0, A, S, e, A', S', ok, h => by cases h
  | n + 1, A, S, e, A', S', ok, h => by
    simp only [loopN] at h
    split at h
    · rename_i A1 S1 h1
      have a := hf _ _ _ _ _ ok h1
      exact a.trans (loopN_astep hf n _ _ _ _ _ (a.ok ok) h)
    · exact hf _ _ _ _ _ ok h
theorem clrOut_spec {ts : List Tmp} {r : Out} {e : Exit} {A' : Act} {S' : St} (h : clrOut ts r = some (e, A', S')) : ∃ A1, r = some (e, A1, S') ∧ ((e = .normal ∧ A' = clr ts A1) ∨ (e ≠ .normal ∧ A' = A1)) := by
  cases r with
  | none => cases h
  | some x =>
    obtain ⟨ex, A1, S1⟩ := x
    cases ex <;> (simp only [clrOut, Option.some.injEq, Prod.mk.injEq] at h; obtain ⟨rfl, rfl, rfl⟩ := h; first | exact ⟨_, rfl, .inl ⟨rfl, rfl⟩⟩ | exact ⟨_, rfl, .inr ⟨fun h => (by cases h), rfl⟩⟩)
theorem clrOut_astep {f : Act → St → Out} (hf : BodyA f) (ts : List Tmp) : BodyA fun A S => clrOut ts (f A S) := by
  intro A S e A' S' ok h
  obtain ⟨A1, h1, _⟩ := clrOut_spec h
  exact hf _ _ _ _ _ ok h1
theorem clr_rel {N : Nat} {φ : Emb} {A a : Act} (ts : List Tmp) (h : ActRel N φ A a) : ActRel N φ (clr ts A) a := by
  refine ⟨?_, h.2⟩
  have : ∀ (ts : List Tmp) (u : Array Value), RRel N φ u a.tmps → RRel N φ (ts.foldl (fun a t => a.setIfInBounds t junk) u) a.tmps := by
    intro ts
    induction ts with
    | nil => intro u hu; exact hu
    | cons t ts ih =>
      intro u hu
      rw [List.foldl_cons]
      refine ih _ ⟨by simpa using hu.1, fun i v hv => ?_⟩
      rw [Array.toList_setIfInBounds, List.getElem?_set] at hv
      split at hv
      · rename_i hti
        split at hv
        · rename_i hlt
          cases hv
          have hi : i < a.tmps.toList.length := by rw [← hu.1, ← hti]; exact hlt
          exact ⟨a.tmps.toList[i], List.getElem?_eq_getElem hi, .any _⟩
        · cases hv
      · exact hu.2 i v hv
  exact this ts _ h.1
theorem clr_defers (ts : List Tmp) (A : Act) : (clr ts A).defers = A.defers := rfl
theorem code_astep (hA : CallerA C) (n : Nat) : ∀ c : Code, BodyA (codeC P W C (fun b => loopN b n) c) := by
  intro c
  induction c with
  | skip => intro A S e A' S' ok h; cases h; exact AStep.refl S
  | label l => intro A S e A' S' ok h; cases h; exact AStep.refl S
  | exit id => intro A S e A' S' ok h; cases h; exact AStep.refl S
  | ret => intro A S e A' S' ok h; cases h; exact AStep.refl S
  | goto l => intro A S e A' S' ok h; cases h
  | refuse w => intro A S e A' S' ok h; cases h
  | rangeFunc f p a b => intro A S e A' S' ok h; cases h
  | region id ops draw =>
    intro A S e A' S' ok h
    simp only [codeC] at h
    split at h
    · cases h; exact reg_astep hA ok ‹_›
    · cases h
  | seq a b iha ihb =>
    intro A S e A' S' ok h
    simp only [codeC] at h
    split at h
    · have a1 := iha _ _ _ _ _ ok ‹_›
      exact a1.trans (ihb _ _ _ _ _ (a1.ok ok) h)
    · exact iha _ _ _ _ _ ok h
  | cond c a b iha ihb =>
    intro A S e A' S' ok h
    simp only [codeC] at h
    split at h
    · exact iha _ _ _ _ _ ok h
    · exact ihb _ _ _ _ _ ok h
    · cases h
  | block id a iha =>
    intro A S e A' S' ok h
    simp only [codeC] at h
    split at h
    · rename_i i A1 S1 h1
      split at h <;> (cases h; exact iha _ _ _ _ _ ok h1)
    · exact iha _ _ _ _ _ ok h
  | loop a iha =>
    intro A S e A' S' ok h
    exact loopN_astep (clrOut_astep iha _) n _ _ _ _ _ ok h
  | scope a iha =>
    intro A S e A' S' ok h
    simp only [codeC] at h
    split at h
    · cases h
    · exact iha _ _ _ _ _ ok h

theorem put_defers (A : Act) (d : Option Tmp) (v : Value) : (A.put d v).defers = A.defers := by cases d <;> rfl
theorem opsC_defers {ops : Array Oper} : ∀ {l : List (Oper × Bool)} {A A' : Act} {S S' : St}, opsC P W C ops l A S = some (A', S') → A'.defers = A.defers
  | [], A, A', S, S', e => by simp only [opsC, Option.some.injEq, Prod.mk.injEq] at e; rw [e.1]
  | x :: l, A, A', S, S', e => by
    rw [opsC_cons] at e
    cases h : stepC P W C ops x (A, S) with
    | none => rw [h] at e; cases e
    | some r =>
      rw [h] at e
      rw [opsC_defers e]
      unfold stepC at h
      split at h
      · cases h
      split at h
      · split at h
        · cases h; exact put_defers _ _ _
        · cases h
      · cases h; exact put_defers _ _ _
def BodyD (f : Act → St → Out) : Prop := ∀ A S e A' S', f A S = some (e, A', S') → A'.defers = A.defers
theorem loopN_defers {f : Act → St → Out} (hf : BodyD f) : ∀ n, BodyD (loopN f n)
  | 0, A, S, e, A', S', h => by cases h
  | n + 1, A, S, e, A', S', h => by
    simp only [loopN] at h
    split at h
    · rename_i A1 S1 h1
      exact (loopN_defers hf n _ _ _ _ _ h).trans (hf _ _ _ _ _ h1)
    · exact hf _ _ _ _ _ h
theorem code_defers (n : Nat) : ∀ c : Code, BodyD (codeC P W C (fun b => loopN b n) c) := by
  intro c
  induction c with
  | skip => intro A S e A' S' h; cases h; rfl
  | label l => intro A S e A' S' h; cases h; rfl
  | exit id => intro A S e A' S' h; cases h; rfl
  | ret => intro A S e A' S' h; cases h; rfl
  | goto l => intro A S e A' S' h; cases h
  | refuse w => intro A S e A' S' h; cases h
  | rangeFunc f p a b => intro A S e A' S' h; cases h
  | region id ops draw =>
    intro A S e A' S' h
    simp only [codeC] at h
    split at h
    · cases h; exact opsC_defers (regC_spec ‹_›).2.2
    · cases h
  | seq a b iha ihb =>
    intro A S e A' S' h
    simp only [codeC] at h
    split at h
    · exact (ihb _ _ _ _ _ h).trans (iha _ _ _ _ _ ‹_›)
    · exact iha _ _ _ _ _ h
  | cond c a b iha ihb =>
    intro A S e A' S' h
    simp only [codeC] at h
    split at h
    · exact iha _ _ _ _ _ h
    · exact ihb _ _ _ _ _ h
    · cases h
  | block id a iha =>
    intro A S e A' S' h
    simp only [codeC] at h
    split at h
    · rename_i i A1 S1 h1
      split at h <;> (cases h; exact iha _ _ _ _ _ h1)
    · exact iha _ _ _ _ _ h
  | loop a iha =>
    intro A S e A' S' h
    simp only [codeC] at h
    have hb : BodyD fun A S => clrOut (deadIn a) (codeC P W C (fun b => loopN b n) a A S) := by
      intro A S e A' S' h
      obtain ⟨A1, h1, h2⟩ := clrOut_spec h
      have := iha _ _ _ _ _ h1
      rcases h2 with ⟨_, h2⟩ | ⟨_, h2⟩
      · rw [h2]; exact this
      · rw [h2]; exact this
    have := loopN_defers hb n _ _ _ _ _ h
    exact this
  | scope a iha =>
    intro A S e A' S' h
    simp only [codeC] at h
    split at h
    · cases h
    · exact iha _ _ _ _ _ h

/-- A body is the model's. -/
def BodyOk (P : Program) (W : World) (c : Code) (f : Act → St → Out) : Prop :=
  ∀ (Q : Exit → Act → World → Prop) (A S e A' S'), f A S = some (e, A', S') → ∀ (φ : Emb) (a : Act) (w : World), Rel W φ S w → ActRel W.heap.size φ A a → Free φ S.c S'.c →
    (∀ φ' a' w', ActRel W.heap.size φ' A' a' → Post W φ S w φ' S' w' → Q e a' w') → c.wp P Q a w

theorem loopN_rounds {c : Code} {f : Act → St → Out} (hA : BodyA f) (hf : BodyOk P W c f) : ∀ (n : Nat) (Q : Exit → Act → World → Prop) (A S e A' S'), loopN f n A S = some (e, A', S') → ∀ (φ : Emb) (a : Act) (w : World), Rel W φ S w → ActRel W.heap.size φ A a → Free φ S.c S'.c →
    (∀ φ' a' w', ActRel W.heap.size φ' A' a' → Post W φ S w φ' S' w' → Q e a' w') → Code.rounds P c Q n a w
  | 0, Q, A, S, e, A', S', h, φ, a, w, hr, ha, hfr, hQ => by cases h
  | n + 1, Q, A, S, e, A', S', h, φ, a, w, hr, ha, hfr, hQ => by
    rw [rounds_succ]
    simp only [loopN] at h
    split at h
    · rename_i A1 S1 h1
      have a1 := hA _ _ _ _ _ hr.ok h1
      have a2 := loopN_astep hA n _ _ _ _ _ (a1.ok hr.ok) h
      refine hf _ _ _ _ _ _ h1 φ a w hr ha (free_left a2.c hfr) fun φ' a' w' ha' hp => ?_
      exact loopN_rounds hA hf n Q A1 S1 e A' S' h φ' a' w' hp.rel ha' (free_step a1.c hfr hp) fun φ2 a2' w2 ha2 hp2 => hQ φ2 a2' w2 ha2 (hp.trans a1.c a2.c hp2)
    · rename_i hn
      refine hf _ _ _ _ _ _ h φ a w hr ha hfr fun φ' a' w' ha' hp => ?_
      have := hQ φ' a' w' ha' hp
      cases e with
      | normal => exact (hn _ _ h).elim
      | _ => exact this

theorem code_sound (hA : CallerA C) (hC : CallerOk P W C) (hG : P.globals.size ≤ W.heap.size) (hm : P.follows .mixedOrders = true) (n : Nat) : ∀ c : Code, BodyOk P W c (codeC P W C (fun b => loopN b n) c) := by
  intro c
  induction c with
  | skip => intro Q A S e A' S' h φ a w hr ha hf hQ; cases h; exact wp_skip (hQ φ a w ha (Post.refl hr))
  | label l => intro Q A S e A' S' h φ a w hr ha hf hQ; cases h; exact wp_label (hQ φ a w ha (Post.refl hr))
  | exit id => intro Q A S e A' S' h φ a w hr ha hf hQ; cases h; exact wp_exit (hQ φ a w ha (Post.refl hr))
  | ret => intro Q A S e A' S' h φ a w hr ha hf hQ; cases h; exact wp_ret (hQ φ a w ha (Post.refl hr))
  | goto l => intro Q A S e A' S' h; cases h
  | refuse w => intro Q A S e A' S' h; cases h
  | rangeFunc f p a b => intro Q A S e A' S' h; cases h
  | region id ops draw =>
    intro Q A S e A' S' h φ a w hr ha hf hQ
    simp only [codeC] at h
    split at h
    · cases h; exact reg_sound hA hC hG hm ‹_› hr ha hf hQ
    · cases h
  | seq x y ihx ihy =>
    intro Q A S e A' S' h φ a w hr ha hf hQ
    simp only [codeC] at h
    refine wp_seq ?_
    split at h
    · rename_i A1 S1 h1
      have a1 := code_astep hA n x _ _ _ _ _ hr.ok h1
      have a2 := code_astep hA n y _ _ _ _ _ (a1.ok hr.ok) h
      refine ihx _ _ _ _ _ _ h1 φ a w hr ha (free_left a2.c hf) fun φ' a' w' ha' hp => ?_
      exact ihy Q _ _ _ _ _ h φ' a' w' hp.rel ha' (free_step a1.c hf hp) fun φ2 a2' w2 ha2 hp2 => hQ φ2 a2' w2 ha2 (hp.trans a1.c a2.c hp2)
    · rename_i hn
      refine ihx _ _ _ _ _ _ h φ a w hr ha hf fun φ' a' w' ha' hp => ?_
      have := hQ φ' a' w' ha' hp
      cases e with
      | normal => exact (hn _ _ h).elim
      | _ => exact this
  | cond c x y ihx ihy =>
    intro Q A S e A' S' h φ a w hr ha hf hQ
    simp only [codeC] at h
    have hv : ∀ b, A.eval c = .bool b → a.eval c = .bool b := by
      intro b hb
      cases c with
      | tmp t =>
        have := act_getD ha t
        simp only [Act.eval] at hb ⊢
        rw [hb] at this
        generalize a.tmps.getD t undef = q at this
        cases this; rfl
      | const v => exact hb
      | global g => cases hb
      | func f => cases hb
    split at h
    · exact wp_cond_true (hv _ ‹_›) (ihx Q _ _ _ _ _ h φ a w hr ha hf hQ)
    · exact wp_cond_false (hv _ ‹_›) (ihy Q _ _ _ _ _ h φ a w hr ha hf hQ)
    · cases h
  | block id x ihx =>
    intro Q A S e A' S' h φ a w hr ha hf hQ
    simp only [codeC] at h
    refine wp_block ?_
    split at h
    · rename_i i A1 S1 h1
      split at h
      · rename_i hi
        cases h
        subst hi
        refine ihx _ _ _ _ _ _ h1 φ a w hr ha hf fun φ' a' w' ha' hp => ?_
        simp only [Exit.inBlock]
        simpa using hQ φ' a' w' ha' hp
      · rename_i hi
        cases h
        refine ihx _ _ _ _ _ _ h1 φ a w hr ha hf fun φ' a' w' ha' hp => ?_
        simp only [Exit.inBlock]
        simpa [hi] using hQ φ' a' w' ha' hp
    · rename_i hn
      refine ihx _ _ _ _ _ _ h φ a w hr ha hf fun φ' a' w' ha' hp => ?_
      have := hQ φ' a' w' ha' hp
      cases e with
      | exit i => exact (hn _ _ _ h).elim
      | _ => exact this
  | loop x ihx =>
    intro Q A S e A' S' h φ a w hr ha hf hQ
    refine wp_loop_rounds n (loopN_rounds (clrOut_astep (code_astep hA n x) (deadIn x)) (fun Q A S e A' S' h φ a w hr ha hf hQ => ?_) n Q _ S e A' S' h φ a w hr (clr_rel _ ha) hf hQ)
    obtain ⟨A1, h1, h2⟩ := clrOut_spec h
    refine ihx Q _ _ _ _ _ h1 φ a w hr ha hf fun φ' a' w' ha' hp => hQ φ' a' w' ?_ hp
    rcases h2 with ⟨_, h2⟩ | ⟨_, h2⟩
    · rw [h2]; exact clr_rel _ ha'
    · rw [h2]; exact ha'
  | scope x ihx =>
    intro Q A S e A' S' h φ a w hr ha hf hQ
    simp only [codeC] at h
    refine wp_scope_straight ?_
    split at h
    · cases h
    · rename_i hn
      refine ihx _ _ _ _ _ _ h φ a w hr ha hf fun φ' a' w' ha' hp => ?_
      have := hQ φ' a' w' ha' hp
      cases e with
      | goto l => exact (hn _ _ _ h).elim
      | _ => exact this

/-! ### Results -/
theorem resL_run {S : St} {φ : Emb} {w : World} (h : Rel W φ S w) {t t' : Array Value} (ht : RRel W.heap.size φ t t') : ∀ (rs : List ResultVar) (l : List Value), resL P W S t rs = some l →
    ∃ l', LRel W.heap.size φ l l' ∧ (rs.mapM fun | .tmp i => pure (t'.getD i undef) | .cell a ty => do loadVar ty (← asAddr (t'.getD a undef)) : Sem (List Value)).run P w = .ok l' w
  | [], l, e => by simp only [resL, Option.some.injEq] at e; subst e; exact ⟨[], LRel.nil, rfl⟩
  | r :: rs, l, e => by
    simp only [resL] at e
    split at e
    · rename_i v hv
      split at e
      · rename_i l1 h1
        cases e
        obtain ⟨l', a, b⟩ := resL_run h ht rs l1 h1
        rw [List.mapM_cons]
        cases r with
        | tmp i =>
          simp only [resV, Option.some.injEq] at hv
          subst hv
          refine ⟨_, LRel.cons (ht.getD i) a, ?_⟩
          dsimp only
          rw [run_bind_ok (runPure _ _), run_bind_ok b]
          rfl
        | cell ad ty =>
          simp only [resV] at hv
          obtain ⟨v', c1, c2⟩ := load_run (P := P) h (ht.getD ad) hv
          refine ⟨_, LRel.cons c2 a, ?_⟩
          dsimp only
          have had : (do loadVar ty (← asAddr (t'.getD ad undef)) : Sem Value).run P w = .ok v' w := by
            unfold Instr.loadAt at c1
            generalize t'.getD ad undef = q at c1
            cases q <;> first | (simp [Instr.sureAddr, stuck] at c1; done) | skip
            rename_i p
            cases p with
            | none => simp [Instr.sureAddr, stuck] at c1
            | some p => exact c1
          rw [run_bind_ok had, run_bind_ok b]
          rfl
      · cases e
    · cases e

theorem finish_run {S : St} {φ : Emb} {w : World} (h : Rel W φ S w) {t t' : Array Value} (ht : RRel W.heap.size φ t t') {fn : Func} {l : List Value} (e : resL P W S t fn.results.toList = some l) :
    ∃ v', (results fn t').run P w = .ok v' w ∧ VRel W.heap.size φ (packed l) v' := by
  obtain ⟨l', a, b⟩ := resL_run h ht _ _ e
  have hm : (fn.results.mapM fun | .tmp i => pure (t'.getD i undef) | .cell a ty => do loadVar ty (← asAddr (t'.getD a undef)) : Sem (Array Value)).run P w = .ok l'.toArray w := by
    rw [Array.mapM_eq_mapM_toList, Sem.run_map]
    have b : (fn.results.toList.mapM fun | .tmp i => pure (t'.getD i undef) | .cell a ty => do loadVar ty (← asAddr (t'.getD a undef)) : Sem (List Value)).run P w = .ok l' w := b
    rw [b]
    rfl
  refine ⟨if h : l'.toArray.size = 1 then l'.toArray[0] else .tuple l'.toArray, ?_, ?_⟩
  · unfold results
    exact (run_bind_ok hm).trans rfl
  · cases l with
    | nil => rw [LRel.of_nil a]; exact VRel.tuple' (u := #[]) (u' := #[]) LRel.nil
    | cons v l =>
      obtain ⟨v', r, rfl, h1, h2⟩ := a.uncons
      cases l with
      | nil => rw [LRel.of_nil h2]; exact h1
      | cons u l =>
        obtain ⟨u', r', rfl, h3, h4⟩ := h2.uncons
        rw [dif_neg (by simp)]
        exact VRel.tuple' (u := (v :: u :: l).toArray) (u' := (v' :: u' :: r').toArray) (LRel.cons h1 (LRel.cons h3 h4))

/-! ### Calls -/
theorem finish_spec {fn : Func} {r : Out} {v : Value} {S' : St} (e : finish P W fn r = some (v, S')) : ∃ ex A l, r = some (ex, A, S') ∧ (ex = .normal ∨ ex = .ret) ∧ resL P W S' A.tmps fn.results.toList = some l ∧ v = packed l := by
  unfold finish at e
  split at e
  · split at e
    · cases e; exact ⟨_, _, _, rfl, .inl rfl, ‹_›, rfl⟩
    · cases e
  · split at e
    · cases e; exact ⟨_, _, _, rfl, .inr rfl, ‹_›, rfl⟩
    · cases e
  · cases e

/-! ### What is forgotten -/
def cut (n : Nat) (φ : Emb) : Emb := fun i => if i < n then φ i else none
theorem cut_le (n : Nat) (φ : Emb) : ELe (cut n φ) φ := fun i L e => by
  unfold cut at e
  split at e
  · exact e
  · cases e
theorem vlt0_rel {N n : Nat} {φ : Emb} {v v' : Value} (h : vlt0 n v = true) (k : VRel N φ v v') : VRel N (cut n φ) v v' := by
  cases k with
  | ptr h1 =>
    obtain ⟨L, e, r⟩ := h1
    exact .ptr ⟨L, by unfold cut; rw [if_pos (of_decide_eq_true h)]; exact e, r⟩
  | sl h1 =>
    obtain ⟨L, e, r⟩ := h1
    exact .sl ⟨L, by unfold cut; rw [if_pos (of_decide_eq_true h)]; exact e, r⟩
  | map h1 h2 => exact .map (by unfold cut; rw [if_pos (of_decide_eq_true h)]; exact h1) h2
  | func => cases h
  | agg => cases h
  | tuple => cases h
  | bool => exact .bool _
  | int => exact .int _ _
  | float => exact .float _ _
  | string => exact .string _
  | nilPtr => exact .nilPtr
  | nilSl => exact .nilSl _ _
  | sl0 h1 => exact .sl0 h1
  | nilMap => exact .nilMap
  | nilFunc => exact .nilFunc
  | any => exact .any _
theorem all_get {p : Value → Bool} {u : Array Value} (h : u.all p = true) (i : Nat) (hi : i < u.size) : p u[i] = true := by
  rw [Array.all_eq_true_iff_forall_mem] at h
  exact h _ (Array.getElem_mem hi)
theorem vlt1_rel {N n : Nat} {φ : Emb} {v v' : Value} (h : vlt1 n v = true) (k : VRel N φ v v') : VRel N (cut n φ) v v' := by
  cases k with
  | func fn h1 h2 h3 h4 =>
    simp only [vlt1, Bool.and_eq_true] at h
    exact .func fn h1 (fun i a b => vlt0_rel (all_get h.1 i a) (h2 i a b)) h3 (fun i a b => vlt0_rel (all_get h.2 i a) (h4 i a b))
  | ptr h1 => exact vlt0_rel h (.ptr h1)
  | sl h1 => exact vlt0_rel h (.sl h1)
  | map h1 h2 => exact vlt0_rel h (.map h1 h2)
  | agg => cases h
  | tuple => cases h
  | bool => exact .bool _
  | int => exact .int _ _
  | float => exact .float _ _
  | string => exact .string _
  | nilPtr => exact .nilPtr
  | nilSl => exact .nilSl _ _
  | sl0 h1 => exact .sl0 h1
  | nilMap => exact .nilMap
  | nilFunc => exact .nilFunc
  | any => exact .any _
theorem vlt_rel {N n : Nat} {φ : Emb} {v v' : Value} (h : vlt n v = true) (k : VRel N φ v v') : VRel N (cut n φ) v v' := by
  cases v with
  | agg cs =>
    cases k with
    | agg h1 h2 => exact .agg h1 (fun i a b => vlt1_rel (all_get (by exact h) i a) (h2 i a b))
  | _ => exact vlt1_rel h k
theorem cut_rel {φ : Emb} {S : St} {w : World} (h : Rel W φ S w) (hc : Cl S) : Rel W (cut S.c φ) S w := by
  have hN : W.heap.size ≤ S.c := Nat.le_trans h.lockN h.ok.1
  have get : ∀ {i L}, cut S.c φ i = some L → i < S.c ∧ φ i = some L := fun {i L} e => by
    unfold cut at e
    split at e
    · exact ⟨by assumption, e⟩
    · cases e
  refine ⟨h.below, fun i hi => ?_, h.lockN, h.ok, h.deadB, fun i L e hi => ?_, fun i j Li Lj ei ej => h.inj i j Li Lj (get ei).2 (get ej).2⟩
  · unfold cut
    rw [if_pos (by omega)]
    exact h.base i hi
  · obtain ⟨hlt, e⟩ := get e
    obtain ⟨b1, b2, b3⟩ := h.blk i L e hi
    refine ⟨b1, b2, ?_⟩
    have hcl := hc i hlt
    cases ho : S.heap i with
    | dead => trivial
    | map es clk => rw [ho] at b3; exact b3
    | row cs k =>
      rw [ho] at b3 hcl
      obtain ⟨C, ee, fr, c1, c2, c3, c4, c5, c6⟩ := b3
      refine ⟨C, ee, fr, c1, c2, c3, c4, c5, fun j v hv => ?_⟩
      obtain ⟨v', d1, d2⟩ := c6 j v hv
      exact ⟨v', d1, vlt1_rel (List.all_eq_true.1 (by exact hcl) v (List.mem_of_getElem? hv)) d2⟩
/-- A call that leaves nothing behind it. -/
theorem gc_post {φ φ' : Emb} {S S0 : St} {w w' : World} (h : Rel W φ S w) (hc : Cl S) (hl : Low S S0) (p : Post W (cut S.c φ) S w φ' S0 w') : Post W φ S w φ S w' := by
  have hr := cut_rel h hc
  refine ⟨ELe.refl φ, ⟨p.rel.below, h.base, h.lockN, h.ok, h.deadB, fun i L e hi => ?_, h.inj⟩, fun i L e => .inl e, p.size, fun b hb ht => p.f1 b hb fun t => ht ?_, fun b hb t => t⟩
  · obtain ⟨b1, b2, b3⟩ := h.blk i L e hi
    refine ⟨b1, Nat.lt_of_lt_of_le b2 p.size, ?_⟩
    rcases Nat.lt_or_ge i S.c with hlt | hge
    · have ec : cut S.c φ i = some L := by unfold cut; rw [if_pos hlt]; exact e
      obtain ⟨_, _, q3⟩ := p.rel.blk i L (p.ext _ _ ec) hi
      rw [hl.2.2 i hlt] at q3
      obtain ⟨_, _, r3⟩ := hr.blk i L ec hi
      cases ho : S.heap i with
      | dead => trivial
      | map es clk => rw [ho] at q3; exact q3
      | row cs k =>
        rw [ho] at q3 r3
        obtain ⟨C, ee, fr, c1, c2, c3, c4, c5, c6⟩ := q3
        obtain ⟨C0, ee0, fr0, a1, a2, a3, a4, a5, a6⟩ := r3
        refine ⟨C, ee, fr, c1, c2, c3, c4, c5, fun j v hv => ?_⟩
        obtain ⟨v', d1, d2⟩ := c6 j v hv
        obtain ⟨v0, _, d4⟩ := a6 j v hv
        exact ⟨v', d1, (VRel.back p.ext d4 d2).mono (cut_le _ _)⟩
    · rw [h.ok.2 i hge]; trivial
  · obtain ⟨i, L, e, r⟩ := t
    exact ⟨i, L, cut_le _ _ _ _ e, r⟩
theorem flatR_eq {N : Nat} {φ φ' : Emb} {v v' : Value} (h : flatR v = true) (k : VRel N φ v v') : VRel N φ' v v' := by
  cases v with
  | tuple cs =>
    cases k with
    | tuple hs hp =>
      refine .tuple hs fun i a b => ?_
      have hf : flat cs[i] = true := all_get (p := flat) (by exact h) i a
      rw [flat_eq hf (hp i a b)]
      exact flat_refl hf
  | _ => rw [flat_eq (by exact h) k]; exact flat_refl (by exact h)
theorem gcB_spec {on : Bool} {args : Array Value} {S : St} {r : Option (Value × St)} {v : Value} {S' : St} (e : gcB on args S r = some (v, S')) :
    r = some (v, S') ∨ ∃ S0, r = some (v, S0) ∧ S' = S ∧ flatR v = true ∧ Low S S0 ∧ Cl S ∧ args.all (vlt S.c) = true := by
  unfold gcB at e
  split at e
  · unfold gcR at e
    split at e
    · rename_i v0 S0
      split at e
      · rename_i hc
        cases e
        exact .inr ⟨S0, rfl, rfl, hc⟩
      · exact .inl e
    · cases e
  · exact .inl e

theorem callN_sound {G : FuncId → Bool} (hG : P.globals.size ≤ W.heap.size) (hm : P.follows .mixedOrders = true) : ∀ k, CallerA (callN P W G k) ∧ CallerOk P W (callN P W G k)
  | 0 => ⟨fun f args S v S' ok e => (by cases e), fun f args S v S' e => (by cases e)⟩
  | k + 1 => by
    obtain ⟨hA, hC⟩ := callN_sound hG hm k
    have bodyA : ∀ f args S v S', Ok S → bodyC P W (callN P W G k) (fun b => loopN b k) f args S = some (v, S') → AStep S S' := by
      intro f args S v S' ok e
      simp only [bodyC] at e
      split at e
      · split at e
        · obtain ⟨ex, A, l, h1, _, _, _⟩ := finish_spec e
          exact code_astep hA k _ _ _ _ _ _ ok h1
        · cases e
      · cases e
    have bodyOk : ∀ f args S v S', bodyC P W (callN P W G k) (fun b => loopN b k) f args S = some (v, S') → ∀ (φ : Emb) (w : World) args', Rel W φ S w → RRel W.heap.size φ args args' → Free φ S.c S'.c →
        Calls P f args' w fun e w' => ∃ φ' v', e = .returned v' ∧ VRel W.heap.size φ' v v' ∧ Post W φ S w φ' S' w' := by
      intro f args S v S' e φ w args' h hargs hf
      simp only [bodyC] at e
      split at e
      · rename_i fn hfn
        split at e
        · rename_i c hc
          obtain ⟨ex, A, l, h1, hex, hl, rfl⟩ := finish_spec e
          refine calls_of_wp hfn hc ?_
          refine code_sound hA hC hG hm k c _ _ _ _ _ _ h1 φ _ w h ⟨?_, rfl⟩ hf fun φ' a' w' ha' hp => ?_
          · refine RRel.append hargs ?_
            rw [hargs.size]
            refine ⟨rfl, fun i v hv => ⟨v, hv, ?_⟩⟩
            rw [Array.getElem?_toList, Array.getElem?_replicate] at hv
            split at hv
            · cases hv; exact undef_rel
            · cases hv
          · obtain ⟨v', r1, r2⟩ := finish_run hp.rel ha'.1 hl
            have hd : a'.defers = [] := by rw [← ha'.2]; exact code_defers k c _ _ _ _ _ h1
            rcases hex with rfl | rfl
            · exact ⟨hd, v', r1, φ', v', rfl, r2, hp⟩
            · exact ⟨hd, v', r1, φ', v', rfl, r2, hp⟩
        · cases e
      · cases e
    refine ⟨fun f args S v S' ok e => ?_, fun f args S v S' e φ w args' h hargs hf => ?_⟩
    · rcases gcB_spec e with e | ⟨S0, e, rfl, _⟩
      · exact bodyA f args S v S' ok e
      · exact AStep.refl _
    · rcases gcB_spec e with e | ⟨S0, e, rfl, h1, h2, h3, h4⟩
      · exact bodyOk f args S v S' e φ w args' h hargs hf
      · refine (bodyOk f args _ v S0 e _ w args' (cut_rel h h3) (RRel.of_pt hargs.size fun i a b => vlt_rel (all_get h4 i a) (hargs.pt i a b)) fun i a b => ?_).mono ?_
        · unfold cut; rw [if_neg (by omega)]
        · rintro en w' ⟨φ', v', rfl, hv, hp⟩
          exact ⟨φ, v', rfl, flatR_eq h1 hv, gc_post h h3 h2 hp⟩
end
end Go.Proofs.YtnnajiaaakkjfaaDoor.E
