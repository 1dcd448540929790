/- A row of operations of the evaluator's is the model's, in whatever order the model takes it. -/
import Derived.Test.YtnnajiaaakkjfaaDoorE12
namespace Go.Proofs.YtnnajiaaakkjfaaDoor.E
open Go Go.RowKit
set_option linter.unusedVariables false

def ActRel (N : Nat) (φ : Emb) (A a : Act) : Prop := RRel N φ A.tmps a.tmps ∧ A.defers = a.defers

section
variable {P : Program} {W : World} {φ : Emb} {S : St} {w : World}

theorem ActRel.mono {N : Nat} {φ φ' : Emb} (h : ELe φ φ') {A a : Act} (k : ActRel N φ A a) : ActRel N φ' A a := ⟨k.1.mono h, k.2⟩
theorem ActRel.put {N : Nat} {A a : Act} (k : ActRel N φ A a) (d : Option Tmp) {v v' : Value} (h : VRel N φ v v') : ActRel N φ (A.put d v) (a.put d v') := by
  cases d with
  | none => exact k
  | some d => exact ⟨k.1.set d h, k.2⟩

theorem eval_rel (hG : P.globals.size ≤ W.heap.size) (h : Rel W φ S w) {A a : Act} {x : Operand} (hx : operOk P x = true) (ht : ∀ t, x = .tmp t → VRel W.heap.size φ (A.tmps.getD t undef) (a.tmps.getD t undef)) : VRel W.heap.size φ (A.eval x) (a.eval x) := by
  cases x with
  | tmp t => exact ht t rfl
  | const v => exact flat_refl hx
  | global g =>
    have hg : g < P.globals.size := of_decide_eq_true hx
    exact .ptr ⟨_, h.base g (by omega), rfl, rfl, rfl, fun hh => absurd hh (by dsimp only; omega)⟩
  | func f => exact .func _ rfl (fun i h => absurd h (by simp)) rfl (fun i h => absurd h (by simp))

theorem opOk_src {o : Oper} (h : opOk P o = true) : (∀ src dst x, o.op = .convert src dst x → ∃ u, P.underlying src = some u) ∧ (∀ c, o.op = .call c → c.callee = .builtin .append → c.args.size = 2) := by
  unfold opOk at h
  simp only [Bool.and_eq_true] at h
  refine ⟨fun src dst x e => ?_, fun c e e2 => ?_⟩
  · rw [e] at h
    exact Option.isSome_iff_exists.1 h.2
  · obtain ⟨cal, args, ts⟩ := c
    dsimp only at e2
    subst e2
    rw [e] at h
    simpa using h.2

theorem yielded_rel {N : Nat} (ops : Array Oper) {t t' : Array Value} (j : Nat) (hj : ∀ d v, ((ops[j]?).bind (·.dst)) = some d → t[d]? = some v → notJ v = true) (h : ∀ d, ((ops[j]?).bind (·.dst)) = some d → t.size = t'.size ∧ (∀ v, t[d]? = some v → ∃ v', t'[d]? = some v' ∧ VRel N φ v v')) : yielded ops t j = yielded ops t' j := by
  unfold yielded
  cases hd : (ops[j]?).bind (·.dst) with
  | none => rfl
  | some d =>
    obtain ⟨h1, h2⟩ := h d hd
    rw [Option.bind_some, Option.bind_some]
    cases hv : t[d]? with
    | none =>
      have : t'[d]? = none := by
        rw [Array.getElem?_eq_none_iff] at hv ⊢
        omega
      rw [this]
    | some v =>
      obtain ⟨v', a, b⟩ := h2 v hv
      rw [a]
      have hjv := hj d v hd hv
      cases b <;> first | rfl | cases hjv

theorem free_step {S1 S2 : St} {φ' : Emb} {w' : World} (hc : S.c ≤ S1.c) (hf : Free φ S.c S2.c) (p : Post W φ S w φ' S1 w') : Free φ' S1.c S2.c := by
  intro i h1 h2
  cases hi : φ' i with
  | none => rfl
  | some L =>
    rcases p.dom i L hi with h | h
    · rw [hf i (by omega) h2] at h; cases h
    · omega
theorem free_left {S1 S2 : St} (hc : S1.c ≤ S2.c) (hf : Free φ S.c S2.c) : Free φ S.c S1.c := fun i h1 h2 => hf i h1 (by omega)

/-- One operation of a row. -/
def stepC (P : Program) (W : World) (C : Caller) (ops : Array Oper) (x : Oper × Bool) (r : Act × St) : Option (Act × St) :=
  if guardOk x.1 ops r.1.tmps = false then none else
  if Region.wanted x.1 (yielded ops r.1.tmps) then
    match (if x.2 then unlock r.2.lock (opStep P W C r.1.eval x.1 (r.2.relock r.2.c)) else opStep P W C r.1.eval x.1 r.2) with
    | some (v, S') => some (r.1.put x.1.dst v, S')
    | none => none
  else some (r.1.put x.1.dst undef, r.2)
theorem opsC_cons (C : Caller) (ops : Array Oper) (x : Oper × Bool) (l : List (Oper × Bool)) (A : Act) (S : St) : opsC P W C ops (x :: l) A S = (stepC P W C ops x (A, S)).bind fun r => opsC P W C ops l r.1 r.2 := by
  obtain ⟨o, q⟩ := x
  unfold stepC
  simp only [opsC]
  split
  · rfl
  split
  · split
    · rename_i h; rw [h]; rfl
    · rename_i h; rw [h]; rfl
  · rfl

theorem unlock_spec {l : Nat} {x : Option (Value × St)} {v : Value} {S : St} (h : unlock l x = some (v, S)) : ∃ S1, x = some (v, S1) ∧ S = S1.relock l := by
  unfold unlock at h
  split at h
  · cases h; exact ⟨_, rfl, rfl⟩
  · cases h
theorem relock_ok {S : St} (ok : Ok S) : Ok (S.relock S.c) := ⟨Nat.le_refl _, ok.2⟩
theorem stepC_astep {C : Caller} (hC : CallerA C) {ops : Array Oper} {x : Oper × Bool} {A A' : Act} {S S' : St} (ok : Ok S) (e : stepC P W C ops x (A, S) = some (A', S')) : AStep S S' ∧ (x.2 = true → ∀ i, i < S.c → S'.heap i = S.heap i) := by
  unfold stepC at e
  split at e
  · cases e
  split at e
  · split at e
    · rename_i v S1 h1
      cases e
      by_cases hq : x.2 = true
      · rw [if_pos hq] at h1
        obtain ⟨S2, h2, rfl⟩ := unlock_spec h1
        have a := opStep_astep hC (relock_ok ok) h2
        exact ⟨⟨a.c, rfl, fun i hi => a.keep i (Nat.lt_of_lt_of_le hi ok.1), a.dead, a.deadC⟩, fun _ i hi => a.keep i hi⟩
      · rw [if_neg hq] at h1
        exact ⟨opStep_astep hC ok h1, fun h => absurd h hq⟩
    · cases e
  · cases e; exact ⟨AStep.refl S, fun _ _ _ => rfl⟩
theorem opsC_astep {C : Caller} (hC : CallerA C) {ops : Array Oper} : ∀ {l : List (Oper × Bool)} {A A' : Act} {S S' : St}, Ok S → opsC P W C ops l A S = some (A', S') → AStep S S'
  | [], A, A', S, S', ok, e => by simp only [opsC, Option.some.injEq, Prod.mk.injEq] at e; obtain ⟨rfl, rfl⟩ := e; exact AStep.refl S
  | x :: l, A, A', S, S', ok, e => by
    rw [opsC_cons] at e
    cases h : stepC P W C ops x (A, S) with
    | none => rw [h] at e; cases e
    | some r =>
      rw [h] at e
      have a := (stepC_astep hC (A' := r.1) (S' := r.2) ok h).1
      exact a.trans (opsC_astep hC (a.ok ok) e)

theorem act_getD {N : Nat} {A a : Act} (h : ActRel N φ A a) (t : Tmp) : VRel N φ (A.tmps.getD t undef) (a.tmps.getD t undef) := h.1.getD t
theorem guard_notJ {o : Oper} {ops : Array Oper} {t : Array Value} (h : guardOk o ops t = true) {g : Nat} {want : Bool} (hg : o.guard = some (g, want)) : ∀ d v, ((ops[g]?).bind (·.dst)) = some d → t[d]? = some v → notJ v = true := by
  intro d v hd hv
  unfold guardOk at h
  rw [hg] at h
  dsimp only at h
  rw [hd, Option.bind_some, hv] at h
  exact h
theorem act_wanted {N : Nat} {A a : Act} (h : ActRel N φ A a) {o : Oper} {ops : Array Oper} (hg : guardOk o ops A.tmps = true) : Region.wanted o (yielded ops A.tmps) = Region.wanted o (yielded ops a.tmps) := by
  unfold Region.wanted
  cases hgu : o.guard with
  | none => rfl
  | some g =>
    obtain ⟨g, want⟩ := g
    dsimp only
    rw [yielded_rel ops g (guard_notJ hg hgu) fun d _ => ⟨h.1.size, fun v hv => h.1.getElem? hv⟩]
theorem act_ops (hG : P.globals.size ≤ W.heap.size) (h : Rel W φ S w) {A a : Act} (k : ActRel W.heap.size φ A a) {o : Oper} (ho : opOk P o = true) : ∀ x ∈ o.op.operands, VRel W.heap.size φ (A.eval x) (a.eval x) := by
  intro x hx
  unfold opOk at ho
  simp only [Bool.and_eq_true, Array.all_eq_true_iff_forall_mem] at ho
  exact eval_rel hG h (ho.1 x hx) fun t _ => act_getD k t

/-- A row in the order of the text. -/
theorem seq_sound {C : Caller} (hA : CallerA C) (hC : CallerOk P W C) (hG : P.globals.size ≤ W.heap.size) {ops : Array Oper} (hops : ∀ o ∈ ops.toList, opOk P o = true) {Q : Exit → Act → World → Prop} {A' : Act} {S' : St} :
    ∀ (l : List (Oper × Bool)) (k : Nat) (φ : Emb) (A a : Act) (S : St) (w : World), l.map (·.1) = ops.toList.drop k → (∀ x ∈ l, x.2 = false) → opsC P W C ops l A S = some (A', S') → Rel W φ S w → ActRel W.heap.size φ A a → Free φ S.c S'.c →
    (∀ φ' a' w', ActRel W.heap.size φ' A' a' → Post W φ S w φ' S' w' → Q .normal a' w') → wpOps P ops Q (List.range' k l.length) a w
  | [], k, φ, A, a, S, w, hl, hq, e, h, ha, hf, hQ => by
    simp only [opsC, Option.some.injEq, Prod.mk.injEq] at e
    obtain ⟨rfl, rfl⟩ := e
    exact hQ φ a w ha (Post.refl h)
  | x :: l, k, φ, A, a, S, w, hl, hq, e, h, ha, hf, hQ => by
    have hk : ops[k]? = some x.1 := by
      have : (ops.toList.drop k)[0]? = some x.1 := by rw [← hl]; rfl
      rw [List.getElem?_drop, Array.getElem?_toList] at this
      simpa using this
    have hl' : l.map (·.1) = ops.toList.drop (k + 1) := by
      have : (ops.toList.drop k).tail = l.map (·.1) := by rw [← hl]; rfl
      rw [← this, List.tail_drop]
    have hxo : opOk P x.1 = true := hops _ (Array.mem_toList_iff.2 (Array.mem_of_getElem? hk))
    have hx2 := hq x (by simp)
    rw [opsC_cons] at e
    cases hs : stepC P W C ops x (A, S) with
    | none => rw [hs] at e; cases e
    | some r =>
      obtain ⟨A1, S1⟩ := r
      rw [hs] at e
      have st := (stepC_astep hA h.ok hs).1
      have st2 := opsC_astep hA (st.ok h.ok) e
      rw [List.length_cons, List.range'_succ]
      simp only [wpOps, hk]
      unfold stepC at hs
      dsimp only at hs
      split at hs
      · cases hs
      rename_i hgf
      rw [act_wanted ha (by simpa using hgf)] at hs
      by_cases hw : Region.wanted x.1 (yielded ops a.tmps) = true
      · rw [if_pos hw] at hs ⊢
        refine .inl ?_
        rw [hx2, if_neg Bool.false_ne_true] at hs
        split at hs
        · rename_i v S2 h2
          cases hs
          obtain ⟨c1, c2⟩ := opOk_src hxo
          refine opStep_sound hC h (act_ops hG h ha hxo) (free_left st2.c hf) c1 c2 h2 _ _ fun φ' v' w' hv hp => ?_
          exact seq_sound hA hC hG hops l (k + 1) φ' _ _ S1 w' hl' (fun y hy => hq y (by simp [hy])) e hp.rel ((ha.mono hp.ext).put _ hv) (free_step st.c hf hp) fun φ2 a2 w2 ha2 hp2 => hQ φ2 a2 w2 ha2 (hp.trans st.c st2.c hp2)
        · cases hs
      · rw [if_neg hw] at hs ⊢
        cases hs
        exact seq_sound hA hC hG hops l (k + 1) φ _ _ S w hl' (fun y hy => hq y (by simp [hy])) e h (ha.put _ undef_rel) hf hQ
end
end Go.Proofs.YtnnajiaaakkjfaaDoor.E
