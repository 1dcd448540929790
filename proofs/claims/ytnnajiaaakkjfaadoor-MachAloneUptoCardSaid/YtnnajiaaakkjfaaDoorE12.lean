/- One operation of the evaluator's is the operation of the model: all of them. -/
import Derived.Test.YtnnajiaaakkjfaaDoorE11
namespace Go.Proofs.YtnnajiaaakkjfaaDoor.E
open Go Go.RowKit
set_option linter.unusedVariables false

/-- What is asked of a caller: what it does to the evaluator's memory, and that what it answers is answered. -/
def CallerA (C : Caller) : Prop := ∀ f args S v S', Ok S → C f args S = some (v, S') → AStep S S'
def CallerOk (P : Program) (W : World) (C : Caller) : Prop :=
  ∀ f args S v S', C f args S = some (v, S') → ∀ (φ : Emb) (w : World) args', Rel W φ S w → RRel W.heap.size φ args args' → Free φ S.c S'.c →
    Calls P f args' w fun e w' => ∃ φ' v', e = .returned v' ∧ VRel W.heap.size φ' v v' ∧ Post W φ S w φ' S' w'

section
variable {P : Program} {W : World} {φ : Emb} {S : St} {w : World}

theorem put_astep {S S' : St} {a : Addr} {vs : List Value} (ok : Ok S) (e : S.put a vs = some S') : AStep S S' := by
  unfold St.put at e
  split at e
  · cases e; exact AStep.refl S
  split at e
  · rename_i hl
    split at e
    · rename_i cs k hh
      split at e
      · split at e
        · cases e; exact AStep.upd S _ _ ok hl (by rw [hh]; exact fun e => by cases e)
        · cases e
      · cases e
    · cases e
  · cases e

theorem append_astep {S S' : St} {ts : Array TypeId} {args : Array Value} {v : Value} (ok : Ok S) (e : aAppend P W S ts args = some (v, S')) : AStep S S' := by
  unfold aAppend at e
  split at e
  rotate_left
  · cases e
  rename_i st xt base sLen sCap x t0 t1 a0 a1
  split at e
  rotate_left
  · cases e
  split at e
  rotate_left
  · cases e
  split at e
  rotate_left
  · cases e
  split at e
  rotate_left
  · cases e
  split at e
  rotate_left
  · cases e
  split at e
  rotate_left
  · cases e
  cases base with
  | none =>
    dsimp only at e
    split at e
    · split at e
      · cases e; exact AStep.refl S
      · cases e; exact AStep.new S _ ok.1
    · cases e
  | some a =>
    dsimp only at e
    by_cases hZ : isZ W a = true
    · rw [if_pos hZ] at e
      split at e
      · split at e
        · cases e; exact AStep.refl S
        · cases e; exact AStep.new S _ ok.1
      · cases e
    rw [if_neg hZ] at e
    cases hfx : S.fx W a with
    | none => rw [hfx] at e; cases e
    | some kf =>
    rw [hfx] at e
    cases kf with
    | succ k =>
      dsimp only at e
      split at e
      · rename_i cs kk hcs
        split at e
        · rename_i hc
          cases e
          have hd : S.heap a.block ≠ .dead := by rw [hcs]; exact fun e => by cases e
          exact (AStep.upd S a.block .dead ok hc.2.2.1 hd).trans (AStep.new _ _ ok.1)
        · cases e
      · cases e
    | zero =>
      dsimp only at e
      split at e
      · split at e
        · cases e; exact put_astep ok ‹_›
        · cases e
      · split at e
        · cases e; exact AStep.new S _ ok.1
        · cases e

theorem justV_spec {x : Option Value} {v : Value} {S S' : St} (e : justV x S = some (v, S')) : x = some v ∧ S' = S := by
  unfold justV at e
  split at e
  · cases e; exact ⟨rfl, rfl⟩
  · cases e

theorem opStep_astep {C : Caller} (hC : CallerA C) {ρ : Operand → Value} {o : Oper} {S S' : St} {v : Value} (ok : Ok S) (e : opStep P W C ρ o S = some (v, S')) : AStep S S' := by
  have new : ∀ ob, AStep S (S.new ob) := fun ob => AStep.new S ob ok.1
  have jv : ∀ {x : Option Value}, justV x S = some (v, S') → AStep S S' := fun h => by rw [(justV_spec h).2]; exact AStep.refl S
  unfold opStep at e
  split at e
  · cases e; exact AStep.refl S
  · cases e; exact AStep.refl S
  · exact jv e
  · unfold aAlloc at e
    split at e
    · cases e; exact new _
    · cases e
  · unfold aBox at e
    split at e
    · cases e; exact new _
    · cases e
  · exact jv e
  · unfold aBuildSlice at e
    split at e
    · split at e
      · split at e
        · split at e
          · cases e; exact new _
          · cases e
        · cases e
      · cases e
    · cases e
  · exact jv e
  · split at e
    · rename_i S1 h1
      cases e
      unfold aStore at h1
      split at h1
      · split at h1
        · exact put_astep ok h1
        · cases h1
      · cases h1
    · cases e
  · exact jv e
  · exact jv e
  · exact jv e
  · unfold aConv at e
    split at e
    · split at e
      · split at e
        · split at e
          · split at e
            · cases e; exact AStep.refl S
            · cases e
          · cases e
        · cases e
      · cases e
    · split at e
      · split at e
        · split at e
          · cases e; exact new _
          · cases e
        · cases e
      · split at e
        · cases e; exact AStep.refl S
        · cases e
    · split at e
      · split at e
        · cases e; exact AStep.refl S
        · cases e
      · cases e
  · cases e; exact AStep.refl S
  · unfold aMakeSlice at e
    split at e
    · split at e
      · split at e
        · split at e
          · cases e; exact new _
          · cases e
        · cases e
      · cases e
    · cases e
  · exact jv e
  · exact jv e
  · exact jv e
  · exact jv e
  · exact jv e
  · exact jv e
  · split at e
    · unfold aBuiltin at e
      split at e
      · exact jv e
      · exact append_astep ok e
      · split at e
        · exact jv e
        · cases e
      · split at e
        · exact jv e
        · cases e
      · cases e
    · unfold aCall at e
      split at e
      · split at e
        · exact hC _ _ _ _ _ ok e
        · cases e
      · cases e
    · cases e
  · cases e

theorem run_callFunc {g : FuncId} {args : Array Value} (hok : callOk P g = true) : (callFunc g args).run P w = .ok (.enter g args) w := by
  unfold callOk at hok
  unfold callFunc
  cases hg : P.funcs[g]? with
  | none => rw [hg] at hok; cases hok
  | some fn =>
    rw [hg] at hok
    simp only [Bool.and_eq_true, bne_iff_ne, ne_eq] at hok
    rw [run_bind_ok (show program.run P w = .ok P w from rfl), hg]
    dsimp only
    rw [if_neg (by simpa using hok.2), if_neg (by have := hok.1; cases hb : fn.body <;> simp_all)]
    rfl

/-- The operation, from here on. -/
def OpRes (P : Program) (W : World) (φ : Emb) (S : St) (w : World) (o : Oper) (a : Act) (v : Value) (S' : St) : Prop :=
  ∀ (K : Act → World → Prop) (Q : Exit → Act → World → Prop), (∀ φ' v' w', VRel W.heap.size φ' v v' → Post W φ S w φ' S' w' → K (a.put o.dst v') w') → o.wp P a w K Q

theorem res_of {o : Oper} {a : Act} {v : Value} {S' : St} {m : Sem Value} (hx : (execOp a.eval o).run P w = (m >>= fun x => pure (.value x) : Sem Next).run P w) (d : Does P W φ S w m v S') : OpRes P W φ S w o a v S' := by
  obtain ⟨φ', v', w', r, hv, hp, _⟩ := d
  intro K Q hK
  unfold Oper.wp
  rw [hx, run_bind_ok r]
  exact hK φ' v' w' hv hp

theorem opt_rel {ρ ρ' : Operand → Value} (x : Option Operand) (hρ : ∀ y ∈ x.toArray, VRel W.heap.size φ (ρ y) (ρ' y)) : (∀ v, x.map ρ = some v → ∃ v', x.map ρ' = some v' ∧ VRel W.heap.size φ v v') ∧ (x.map ρ = none → x.map ρ' = none) := by
  cases x with
  | none => exact ⟨fun v h => (by cases h), fun _ => rfl⟩
  | some y => exact ⟨fun v h => (by cases h; exact ⟨_, rfl, hρ y (by simp [Option.toArray])⟩), fun h => (by cases h)⟩

theorem parts_rel {ρ ρ' : Operand → Value} (ps : Array (Nat × Operand)) (hρ : ∀ y ∈ (ps.toList.map (·.2)).toArray, VRel W.heap.size φ (ρ y) (ρ' y)) :
    (ps.map fun (i, x) => (i, ρ x)).toList.map (·.1) = (ps.map fun (i, x) => (i, ρ' x)).toList.map (·.1) ∧ LRel W.heap.size φ ((ps.map fun (i, x) => (i, ρ x)).toList.map (·.2)) ((ps.map fun (i, x) => (i, ρ' x)).toList.map (·.2)) := by
  simp only [Array.toList_map, List.map_map]
  exact ⟨rfl, LRel.map _ fun x hx => hρ x.2 (by simp only [List.mem_toArray, List.mem_map]; exact ⟨x, hx, rfl⟩)⟩

theorem opStep_sound {C : Caller} (hC : CallerOk P W C) {o : Oper} {A a : Act} {v : Value} {S' : St} (h : Rel W φ S w) (hρ : ∀ x ∈ o.op.operands, VRel W.heap.size φ (A.eval x) (a.eval x)) (hf : Free φ S.c S'.c)
    (hsrc : ∀ src dst x, o.op = .convert src dst x → ∃ u, P.underlying src = some u) (h2 : ∀ c, o.op = .call c → c.callee = .builtin .append → c.args.size = 2)
    (e : opStep P W C A.eval o S = some (v, S')) : OpRes P W φ S w o a v S' := by
  have hfc : S.c < S'.c → φ S.c = none := fun hlt => hf _ (Nat.le_refl _) hlt
  obtain ⟨dst, op, ty, pos, after, guard⟩ := o
  cases op
  case move x => cases e; exact res_of (m := pure (a.eval x)) rfl (Does.same h rfl (hρ x (by simp [Op.operands, Call.operands])))
  case assign x => cases e; exact res_of (m := pure (a.eval x)) rfl (Does.same h rfl (hρ x (by simp [Op.operands, Call.operands])))
  case pick c x y =>
    obtain ⟨e1, rfl⟩ := justV_spec e
    clear e
    have e := e1
    clear e1
    unfold aPick at e
    split at e
    · rename_i t ht
      cases e
      have := hρ c (by simp [Op.operands, Call.operands])
      rw [ht] at this
      have hb : a.eval c = .bool t := by generalize a.eval c = q at this; cases this; rfl
      refine res_of (m := pure (if t then a.eval x else a.eval y)) ?_ (Does.same h rfl (by cases t; exact hρ y (by simp [Op.operands]); exact hρ x (by simp [Op.operands])))
      unfold execOp
      dsimp only
      rw [hb, run_bind_ok (show (asBool (.bool t)).run P w = .ok t w from rfl)]
      rfl
    · cases e
  case alloc el =>
    simp only [opStep, aAlloc] at e
    split at e
    · rename_i z hz
      cases e
      exact res_of (m := Instr.alloc el true (.tuple #[])) rfl (does_alloc h (hfc (Nat.lt_succ_self _)) hz)
    · cases e
  case box el x =>
    simp only [opStep, aBox] at e
    split at e
    rotate_left
    · cases e
    rename_i hj
    cases e
    exact res_of (m := Instr.box el (a.eval x)) rfl (does_box h (hfc (Nat.lt_succ_self _)) el hj (hρ x (by simp [Op.operands, Call.operands])))
  case build t parts =>
    obtain ⟨e1, rfl⟩ := justV_spec e
    obtain ⟨p1, p2⟩ := parts_rel parts hρ
    exact res_of rfl (does_build h p1 p2 e1)
  case buildSlice t len parts =>
    obtain ⟨p1, p2⟩ := parts_rel parts hρ
    exact res_of rfl (does_buildSlice h p1 p2 e hfc)
  case load t x =>
    obtain ⟨e1, rfl⟩ := justV_spec e
    exact res_of rfl (does_load h (hρ x (by simp [Op.operands, Call.operands])) e1)
  case store t x y =>
    simp only [opStep] at e
    split at e
    · rename_i S1 h1
      cases e
      obtain ⟨w', r, p, _⟩ := does_store h (hρ x (by simp [Op.operands, Call.operands])) (hρ y (by simp [Op.operands, Call.operands])) h1
      intro K Q hK
      unfold Oper.wp execOp
      dsimp only
      rw [run_bind_ok r]
      exact hK φ undef w' undef_rel p
    · cases e
  case nilCheck x =>
    have hx := hρ x (by simp [Op.operands, Call.operands])
    obtain ⟨e1, rfl⟩ := justV_spec e
    clear e
    have e := e1
    clear e1
    unfold aNil at e
    split at e
    · rename_i ad had
      cases e
      rw [had] at hx
      cases hq : a.eval x <;> rw [hq] at hx <;> cases hx
      refine res_of (m := pure (a.eval x)) ?_ (Does.same h rfl (by rw [hq]; exact .ptr ‹_›))
      unfold execOp
      dsimp only
      rw [hq]
      rfl
    · rename_i f u v0 hfn
      cases e
      rw [hfn] at hx
      cases hq : a.eval x <;> rw [hq] at hx <;> cases hx
      refine res_of (m := pure (a.eval x)) ?_ (Does.same h rfl (by rw [hq]; exact .func _ ‹_› ‹_› ‹_› ‹_›))
      unfold execOp
      dsimp only
      rw [hq]
      rfl
    · cases e
  case binOp op t x y yt =>
    obtain ⟨e1, rfl⟩ := justV_spec e
    exact res_of rfl (does_bin (x := x) (y := y) h (hρ x (by simp [Op.operands, Call.operands])) (hρ y (by simp [Op.operands, Call.operands])) e1)
  case unOp op t x =>
    obtain ⟨e1, rfl⟩ := justV_spec e
    exact res_of rfl (does_un h (hρ x (by simp [Op.operands, Call.operands])) e1)
  case convert src dst x => exact res_of rfl (does_conv h (hρ x (by simp [Op.operands, Call.operands])) (hsrc _ _ _ rfl) e hfc)
  case makeFunc fn first captured =>
    cases e
    exact res_of rfl (does_makeFunc h fn (RRel.map _ fun x hx => hρ x (by simp only [Op.operands, Array.mem_append]; exact .inl hx)) (RRel.map _ fun x hx => hρ x (by simp only [Op.operands, Array.mem_append]; exact .inr hx)))
  case makeSlice t l c => exact res_of rfl (does_makeSlice h (hρ l (by simp [Op.operands, Call.operands])) (hρ c (by simp [Op.operands, Call.operands])) e hfc)
  case slice t x lo hi mx =>
    obtain ⟨e1, rfl⟩ := justV_spec e
    obtain ⟨l1, l2⟩ := opt_rel lo (fun y hy => hρ y (by simp only [Op.operands, Array.mem_append]; exact .inl (.inl (.inr hy))))
    obtain ⟨h1, h2⟩ := opt_rel hi (fun y hy => hρ y (by simp only [Op.operands, Array.mem_append]; exact .inl (.inr hy)))
    obtain ⟨m1, m2⟩ := opt_rel mx (fun y hy => hρ y (by simp only [Op.operands, Array.mem_append]; exact .inr hy))
    exact res_of rfl (does_slice h (hρ x (by simp [Op.operands, Call.operands])) l1 l2 h1 h2 m1 m2 e1)
  case fieldAddr s x f =>
    obtain ⟨e1, rfl⟩ := justV_spec e
    exact res_of rfl (does_fieldAddr h (hρ x (by simp [Op.operands, Call.operands])) e1)
  case field t x f =>
    obtain ⟨e1, rfl⟩ := justV_spec e
    exact res_of rfl (does_field h (hρ x (by simp [Op.operands, Call.operands])) e1)
  case indexAddr t x i =>
    obtain ⟨e1, rfl⟩ := justV_spec e
    exact res_of rfl (does_indexAddr h (hρ x (by simp [Op.operands, Call.operands])) (hρ i (by simp [Op.operands, Call.operands])) e1)
  case index t x i =>
    obtain ⟨e1, rfl⟩ := justV_spec e
    exact res_of rfl (does_index h (hρ x (by simp [Op.operands, Call.operands])) (hρ i (by simp [Op.operands, Call.operands])) e1)
  case extract t i =>
    obtain ⟨e1, rfl⟩ := justV_spec e
    exact res_of rfl (does_extract h (hρ t (by simp [Op.operands, Call.operands])) e1)
  case call c =>
    obtain ⟨cal, cargs, cts⟩ := c
    have hargs : RRel W.heap.size φ (cargs.map A.eval) (cargs.map a.eval) := RRel.map _ fun x hx => hρ x (by simp only [Op.operands, Call.operands, Array.mem_append]; exact .inr hx)
    cases cal with
    | invoke r m => cases e
    | builtin b =>
      have run : ∀ m : Sem Value, (∀ cs, builtin b cts ty cs (cargs.map a.eval) = (do pure (.value (← m)) : Sem Next)) → (execOp a.eval { dst, op := .call { callee := .builtin b, args := cargs, argTypes := cts }, type := ty, pos, after, guard }).run P w = (m >>= fun x => pure (.value x) : Sem Next).run P w := by
        intro m hm
        unfold execOp
        dsimp only
        unfold resolve
        dsimp only
        rw [run_bind_ok (runPure _ _)]
        unfold invoke
        dsimp only
        rw [hm]
      cases b <;> first | (simp only [opStep, aBuiltin] at e; cases e; done) | skip
      case len =>
        obtain ⟨e1, rfl⟩ := justV_spec e
        exact res_of (run _ fun _ => rfl) (does_len h hargs e1)
      case append => exact res_of (run _ fun _ => rfl) (does_append h hargs (by rw [Array.size_map]; exact h2 _ rfl rfl) e hfc)
      case max =>
        simp only [opStep, aBuiltin] at e
        split at e
        · rename_i hfl
          obtain ⟨e1, rfl⟩ := justV_spec e
          refine res_of (run (Builtin.max_ cts ty (cargs.map a.eval)) fun _ => rfl) ?_
          rw [all_flat_eq hfl hargs]
          exact Does.stillF h e1
        · cases e
      case min =>
        simp only [opStep, aBuiltin] at e
        split at e
        · rename_i hfl
          obtain ⟨e1, rfl⟩ := justV_spec e
          refine res_of (run (Builtin.min_ cts ty (cargs.map a.eval)) fun _ => rfl) ?_
          rw [all_flat_eq hfl hargs]
          exact Does.stillF h e1
        · cases e
    | value f =>
      simp only [opStep] at e
      unfold aCall at e
      split at e
      · rename_i g u vv hfn
        split at e
        · rename_i hok
          have hx := hρ f (by simp [Op.operands, Call.operands])
          rw [hfn] at hx
          cases hq : a.eval f <;> rw [hq] at hx <;> cases hx
          rename_i fn' cap' s1 s2 s3 s4
          intro K Q hK
          unfold Oper.wp execOp
          dsimp only
          unfold resolve
          dsimp only
          rw [hq]
          unfold Deferred.ofValue
          dsimp only
          rw [run_bind_ok (runPure _ _)]
          unfold invoke
          dsimp only
          rw [run_callFunc hok]
          refine (hC g _ S v S' e φ w (fn' ++ cargs.map a.eval ++ cap') h ((RRel.append (RRel.append (RRel.of_pt s1 s2) hargs) (RRel.of_pt s3 s4))) hf).mono ?_
          rintro en w' ⟨φ', v', rfl, hv, hp⟩
          exact hK φ' v' w' hv hp
        · cases e
      · cases e
  all_goals (cases e)
end
end Go.Proofs.YtnnajiaaakkjfaaDoor.E
