/- The evaluator with what follows handed in: the form in which a function's text is laid out. -/
import Derived.Test.YtnnajiaaakkjfaaDoorE18
namespace Go.Proofs.YtnnajiaaakkjfaaDoor.E
open Go Go.RowKit
set_option linter.unusedVariables false

section
variable {β : Type}
def bindV (x : Option Value) (k : Value → Option β) : Option β := match x with | some v => k v | none => none
def bindS (x : Option (Value × St)) (k : Value → St → Option β) : Option β := match x with | some (v, S) => k v S | none => none
def bindT (x : Option St) (k : St → Option β) : Option β := match x with | some S => k S | none => none
def bindO (x : Out) (k : Exit → Act → St → Option β) : Option β := match x with | some (e, A, S) => k e A S | none => none
def condK (v : Value) (t e : Option β) : Option β := match v with | .bool true => t | .bool false => e | _ => none
/-- Is the operation behind a guard wanted? -/
def gV (v : Value) (want : Bool) (k : Bool → Option β) : Option β := match v with | .chan _ => none | .bool b => k (b == want) | _ => k false
def wV (g : Bool) (v : Value) : Value := match g with | true => v | false => undef
def wO (g : Bool) (x : Option Value) : Option Value := match g with | true => x | false => some undef
def wS (g : Bool) (S : St) (x : Option (Value × St)) : Option (Value × St) := match g with | true => x | false => some (undef, S)
def wT (g : Bool) (S : St) (x : Option St) : Option St := match g with | true => x | false => some S
def qS (q : Bool) (S : St) (f : St → Option (Value × St)) : Option (Value × St) := match q with | true => unlock S.lock (f (S.relock S.c)) | false => f S

variable (P : Program) (W : World) (C : Caller) (L : Looper)

def opK (q g : Bool) (ρ : Operand → Value) (o : Oper) (S : St) (K : Value → St → Option β) : Option β :=
  match o.op with
  | .move x | .assign x => K (wV g (ρ x)) S
  | .pick c a b => bindV (wO g (aPick (ρ c) (ρ a) (ρ b))) fun v => K v S
  | .build t parts => bindV (wO g (aBuild P t (parts.map fun (i, x) => (i, ρ x)))) fun v => K v S
  | .load t a => bindV (wO g (aLoad P W S t (ρ a))) fun v => K v S
  | .store t a x => bindT (wT g S (match q with | true => none | false => aStore P S t (ρ a) (ρ x))) fun S' => K undef S'
  | .nilCheck x => bindV (wO g (aNil (ρ x))) fun v => K v S
  | .binOp op t x y _ => bindV (wO g (aBin P op t (ρ x) (ρ y))) fun v => K v S
  | .unOp op _ x => bindV (wO g (aUn P op (ρ x))) fun v => K v S
  | .makeFunc fn first captured => K (wV g (.func fn (first.map ρ) (captured.map ρ))) S
  | .slice t x lo hi mx => bindV (wO g (aSlice P W S t (ρ x) (lo.map ρ) (hi.map ρ) (mx.map ρ))) fun v => K v S
  | .fieldAddr s x f => bindV (wO g (aFieldAddr P s (ρ x) f)) fun v => K v S
  | .field t x f => bindV (wO g (still P (Instr.field t (ρ x) f))) fun v => K v S
  | .indexAddr t x i => bindV (wO g (aIndexAddr P t (ρ x) (ρ i))) fun v => K v S
  | .index t x i => bindV (wO g (still P (Instr.index t (ρ x) (ρ i)))) fun v => K v S
  | .extract t i => bindV (wO g (still P (Instr.extract (ρ t) i))) fun v => K v S
  | .call c =>
    match c.callee with
    | .builtin .len => bindV (wO g (aLen P W S c.argTypes (c.args.map ρ))) fun v => K v S
    | .value f => bindS (wS g S (qS q S fun S => aCall P C S (ρ f) (c.args.map ρ))) K
    | _ => bindS (wS g S (qS q S fun S => opStep P W C ρ o S)) K
  | _ => bindS (wS g S (qS q S fun S => opStep P W C ρ o S)) K

def ifG (o : Oper) (ops : Array Oper) (tmps : Array Value) (k : Bool → Option β) : Option β :=
  match o.guard with
  | none => k true
  | some (j, want) => match ((ops[j]?).bind (·.dst)).bind (tmps[·]?) with | some v => gV v want k | none => k false

def opsK (ops : Array Oper) : List (Oper × Bool) → Act → St → (Act → St → Option β) → Option β
  | [], A, S, K => K A S
  | (o, q) :: rest, A, S, K => ifG o ops A.tmps fun g => opK P W C q g A.eval o S fun v S' => opsK ops rest (A.put o.dst v) S' K

def seqK (k : Act → St → Option β) (K : Exit → Act → St → Option β) : Exit → Act → St → Option β := fun e A S => match e with | .normal => k A S | e => K e A S
def blockK (id : Nat) (K : Exit → Act → St → Option β) : Exit → Act → St → Option β := fun e A S => match e with | .exit i => if i = id then K .normal A S else K (.exit i) A S | e => K e A S
def scopeK (K : Exit → Act → St → Option β) : Exit → Act → St → Option β := fun e A S => match e with | .goto _ => none | e => K e A S

def loopAt (a : Code) (A : Act) (S : St) : Out := L (fun A S => clrOut (deadIn a) (codeC P W C L a A S)) (clr (deadIn a) A) S

def codeK : Code → Act → St → (Exit → Act → St → Option β) → Option β
  | .skip, A, S, K | .label _, A, S, K => K .normal A S
  | .region _ ops draw, A, S, K => opsK P W C ops (flags ops draw) A S fun A S => K .normal A S
  | .seq a b, A, S, K => codeK a A S (seqK (fun A S => codeK b A S K) K)
  | .cond c a b, A, S, K => condK (A.eval c) (codeK a A S K) (codeK b A S K)
  | .block id a, A, S, K => codeK a A S (blockK id K)
  | .loop a, A, S, K => bindO (loopAt P W C L a A S) K
  | .exit id, A, S, K => K (.exit id) A S
  | .scope a, A, S, K => codeK a A S (scopeK K)
  | .ret, A, S, K => K .ret A S
  | _, _, _, _ => none

/-- What follows upon a part of a code. -/
def contK : List Nat → Code → (Exit → Act → St → Option β) → Exit → Act → St → Option β
  | [], _, K => K
  | d :: p, .seq a b, K => if d = 0 then contK p a (seqK (fun A S => codeK P W C L b A S K) K) else contK p b K
  | d :: p, .cond _ a b, K => if d = 0 then contK p a K else contK p b K
  | _ :: p, .block id a, K => contK p a (blockK id K)
  | _ :: p, .scope a, K => contK p a (scopeK K)
  | _ :: p, .loop a, K => contK p a K
  | _, _, K => K
def codeAt : List Nat → Code → Code
  | [], c => c
  | d :: p, .seq a b => if d = 0 then codeAt p a else codeAt p b
  | d :: p, .cond _ a b => if d = 0 then codeAt p a else codeAt p b
  | _ :: p, .block _ a => codeAt p a
  | _ :: p, .scope a => codeAt p a
  | _ :: p, .loop a => codeAt p a
  | _, c => c
def bodyOf (fn : Func) : Code := fn.body.getD .skip

def regOk : Code → Bool
  | .region _ ops draw => ops.toList.all (opOk P) && (!draw || regionOk ops)
  | .seq a b | .cond _ a b => regOk a && regOk b
  | .block _ a | .loop a | .scope a => regOk a
  | _ => true

def resK (S : St) (tmps : Array Value) : List ResultVar → (List Value → Option β) → Option β
  | [], k => k []
  | .tmp t :: rs, k => resK S tmps rs fun l => k (tmps.getD t undef :: l)
  | .cell a t :: rs, k => bindV (aLoad P W S t (tmps.getD a undef)) fun v => resK S tmps rs fun l => k (v :: l)
def finK (fn : Func) : Exit → Act → St → Option (Value × St) := fun e A S =>
  match e with
  | .normal | .ret => resK P W S A.tmps fn.results.toList fun l => some (packed l, S)
  | _ => none
/-- What follows upon a round. -/
def roundK (a : Code) : Exit → Act → St → Out := fun e A S => match e with | .normal => loopAt P W C L a A S | e => some (e, A, S)
end

section
variable {P : Program} {W : World} {G : FuncId → Bool} {C : Caller} {L : Looper} {β : Type}

theorem bindS_just (x : Option Value) (S : St) (K : Value → St → Option β) : bindS (justV x S) K = bindV x fun v => K v S := by cases x <;> rfl
theorem relock_self (S : St) : (S.relock S.c).relock S.lock = S := rfl
theorem unlock_just (x : Option Value) (S : St) : unlock S.lock (justV x (S.relock S.c)) = justV x S := by cases x <;> rfl

theorem opK_eq (q g : Bool) (ρ : Operand → Value) (o : Oper) (S : St) (K : Value → St → Option β) (hq : q = true → (∀ t a x, o.op ≠ .store t a x)) :
    opK P W C q g ρ o S K = bindS (if g = true then (if q = true then unlock S.lock (opStep P W C ρ o (S.relock S.c)) else opStep P W C ρ o S) else some (undef, S)) K := by
  obtain ⟨dst, op, ty, pos, after, guard⟩ := o
  have pv : ∀ (f : St → Option Value), (∀ S l, f (S.relock l) = f S) → (∀ S, opStep P W C ρ { dst, op, type := ty, pos, after, guard } S = justV (f S) S) →
      (bindV (wO g (f S)) fun v => K v S) = bindS (if g = true then (if q = true then unlock S.lock (opStep P W C ρ { dst, op, type := ty, pos, after, guard } (S.relock S.c)) else opStep P W C ρ { dst, op, type := ty, pos, after, guard } S) else some (undef, S)) K := by
    intro f hf hs
    cases g with
    | false => rfl
    | true =>
      rw [if_pos rfl, hs, hs, hf]
      cases q with
      | false => simp only [wO, Bool.false_eq_true, if_false, bindS_just]
      | true => simp only [wO, if_true, unlock_just, bindS_just]
  have mv : ∀ (v : Value), (∀ S, opStep P W C ρ { dst, op, type := ty, pos, after, guard } S = some (v, S)) →
      K (wV g v) S = bindS (if g = true then (if q = true then unlock S.lock (opStep P W C ρ { dst, op, type := ty, pos, after, guard } (S.relock S.c)) else opStep P W C ρ { dst, op, type := ty, pos, after, guard } S) else some (undef, S)) K := by
    intro v hs
    rw [hs, hs]
    cases g <;> cases q <;> rfl
  have sv : bindS (wS g S (qS q S fun S => opStep P W C ρ { dst, op, type := ty, pos, after, guard } S)) K = bindS (if g = true then (if q = true then unlock S.lock (opStep P W C ρ { dst, op, type := ty, pos, after, guard } (S.relock S.c)) else opStep P W C ρ { dst, op, type := ty, pos, after, guard } S) else some (undef, S)) K := by
    cases g <;> cases q <;> rfl
  cases op <;> first | exact sv | exact mv _ (fun _ => rfl) | exact pv (fun S => _) (fun _ _ => rfl) (fun _ => rfl) | skip
  case load t a => exact pv (fun S => aLoad P W S t (ρ a)) (fun _ _ => rfl) (fun _ => rfl)
  case slice t x lo hi mx => exact pv (fun S => aSlice P W S t (ρ x) (lo.map ρ) (hi.map ρ) (mx.map ρ)) (fun _ _ => rfl) (fun _ => rfl)
  case store t a x =>
    cases q with
    | true => exact (hq rfl _ _ _ rfl).elim
    | false =>
      cases g with
      | false => rfl
      | true =>
        simp only [opK, wT, opStep, if_true, Bool.false_eq_true, if_false]
        cases aStore P S t (ρ a) (ρ x) <;> rfl
  case call c =>
    obtain ⟨cal, args, ts⟩ := c
    cases cal with
    | invoke r m => exact sv
    | value f => exact sv
    | builtin b =>
      cases b <;> first | exact sv | exact pv (fun S => aLen P W S ts (args.map ρ)) (fun _ _ => rfl) (fun _ => rfl)

theorem bindS_none (K : Value → St → Option β) : bindS none K = none := rfl
theorem ifG_eq (o : Oper) (ops : Array Oper) (tmps : Array Value) (k : Bool → Option β) : ifG o ops tmps k = if guardOk o ops tmps = false then none else k (Region.wanted o (yielded ops tmps)) := by
  unfold ifG guardOk Region.wanted yielded
  cases hg : o.guard with
  | none => rfl
  | some g =>
    obtain ⟨j, want⟩ := g
    have key : ∀ x : Option Value, (match x with | some v => gV v want k | none => k false) = if (match x with | some v => notJ v | none => true) = false then none else k ((match x with | some (.bool b) => some b | _ => none) == some want) := by
      intro x
      cases x with
      | none => rfl
      | some v => cases v <;> first | rfl | skip
    exact key _
theorem opsK_eq (ops : Array Oper) (K : Act → St → Option β) : ∀ (l : List (Oper × Bool)) (A : Act) (S : St), (∀ x ∈ l, x.2 = true → ∀ t a v, x.1.op ≠ .store t a v) → opsK P W C ops l A S K = (opsC P W C ops l A S).bind fun r => K r.1 r.2
  | [], A, S, h => rfl
  | x :: l, A, S, h => by
    obtain ⟨o, q⟩ := x
    rw [opsC_cons]
    simp only [opsK]
    rw [ifG_eq]
    unfold stepC
    dsimp only
    by_cases hg : guardOk o ops A.tmps = false
    · rw [if_pos hg, if_pos hg]; rfl
    rw [if_neg hg, if_neg hg, opK_eq _ _ _ _ _ _ (fun hq => h (o, q) (by simp) hq)]
    by_cases hw : Region.wanted o (yielded ops A.tmps) = true
    · rw [if_pos hw, if_pos hw]
      cases hr : (if q = true then unlock S.lock (opStep P W C A.eval o (S.relock S.c)) else opStep P W C A.eval o S) with
      | none => rfl
      | some r =>
        obtain ⟨v, S'⟩ := r
        exact opsK_eq ops K l _ _ fun y hy => h y (by simp [hy])
    · rw [if_neg hw, if_neg hw]
      exact opsK_eq ops K l _ _ fun y hy => h y (by simp [hy])

/-- No store of an open order that may not write. -/
def noStore (ops : Array Oper) (draw : Bool) : Bool := (flags ops draw).all fun x => !(x.2 && match x.1.op with | .store .. => true | _ => false)
theorem noStore_spec {ops : Array Oper} {draw : Bool} (h : noStore ops draw = true) : ∀ x ∈ flags ops draw, x.2 = true → ∀ t a v, x.1.op ≠ .store t a v := by
  intro x hx hq t a v e
  unfold noStore at h
  rw [List.all_eq_true] at h
  have := h x hx
  rw [hq, e] at this
  cases this
def codeOk (P : Program) : Code → Bool
  | .region _ ops draw => ops.toList.all (opOk P) && (!draw || (regionOk ops && noStore ops draw))
  | .seq a b | .cond _ a b => codeOk P a && codeOk P b
  | .block _ a | .loop a | .scope a => codeOk P a
  | _ => true

theorem codeK_eq : ∀ (c : Code) (A : Act) (S : St) (K : Exit → Act → St → Option β), codeOk P c = true → codeK P W C L c A S K = bindO (codeC P W C L c A S) K := by
  intro c
  induction c with
  | skip => intro A S K h; rfl
  | label l => intro A S K h; rfl
  | exit id => intro A S K h; rfl
  | ret => intro A S K h; rfl
  | goto l => intro A S K h; rfl
  | refuse w => intro A S K h; rfl
  | rangeFunc f p a b => intro A S K h; rfl
  | region id ops draw =>
    intro A S K h
    simp only [codeOk, Bool.and_eq_true, Bool.or_eq_true, Bool.not_eq_true'] at h
    simp only [codeK, codeC]
    have hst : ∀ x ∈ flags ops draw, x.2 = true → ∀ t a v, x.1.op ≠ .store t a v := by
      rcases h.2 with hd | hd
      · intro x hx hq
        rw [hd] at hx
        unfold flags at hx
        obtain ⟨y, _, rfl⟩ := List.mem_map.1 hx
        cases hq
      · exact noStore_spec hd.2
    rw [opsK_eq _ _ _ _ _ hst]
    unfold regC
    rw [if_pos (by
      simp only [Bool.and_eq_true, Bool.or_eq_true, Bool.not_eq_true']
      exact ⟨h.1, h.2.imp (fun h => h) And.left⟩)]
    cases opsC P W C ops (flags ops draw) A S with
    | none => rfl
    | some r => rfl
  | seq a b iha ihb =>
    intro A S K h
    simp only [codeOk, Bool.and_eq_true] at h
    simp only [codeK, codeC]
    rw [iha _ _ _ h.1]
    cases codeC P W C L a A S with
    | none => rfl
    | some x =>
      obtain ⟨e, A1, S1⟩ := x
      cases e <;> first | rfl | exact ihb _ _ _ h.2
  | cond c a b iha ihb =>
    intro A S K h
    simp only [codeOk, Bool.and_eq_true] at h
    simp only [codeK, codeC]
    rw [iha _ _ _ h.1, ihb _ _ _ h.2]
    unfold condK
    generalize A.eval c = v
    cases v <;> first | rfl | skip
    rename_i b
    cases b <;> rfl
  | block id a iha =>
    intro A S K h
    simp only [codeOk] at h
    simp only [codeK, codeC]
    rw [iha _ _ _ h]
    cases codeC P W C L a A S with
    | none => rfl
    | some x =>
      obtain ⟨e, A1, S1⟩ := x
      cases e <;> first | rfl | skip
      simp only [bindO, blockK]
      split <;> rfl
  | loop a iha => intro A S K h; rfl
  | scope a iha =>
    intro A S K h
    simp only [codeOk] at h
    simp only [codeK, codeC]
    rw [iha _ _ _ h]
    cases codeC P W C L a A S with
    | none => rfl
    | some x =>
      obtain ⟨e, A1, S1⟩ := x
      cases e <;> rfl

theorem resK_eq (S : St) (tmps : Array Value) : ∀ (rs : List ResultVar) (k : List Value → Option β), resK P W S tmps rs k = (resL P W S tmps rs).bind k
  | [], k => rfl
  | .tmp t :: rs, k => by
    simp only [resK, resL, resV]
    rw [resK_eq S tmps rs]
    cases resL P W S tmps rs <;> rfl
  | .cell a t :: rs, k => by
    simp only [resK, resL, resV]
    cases aLoad P W S t (tmps.getD a undef) with
    | none => rfl
    | some v =>
      simp only [bindV]
      rw [resK_eq S tmps rs]
      cases resL P W S tmps rs <;> rfl
theorem finK_eq (fn : Func) (r : Out) : bindO r (finK P W fn) = finish P W fn r := by
  cases r with
  | none => rfl
  | some x =>
    obtain ⟨e, A, S⟩ := x
    cases e <;> first | rfl | (simp only [bindO, finK, finish]; rw [resK_eq]; cases resL P W S A.tmps fn.results.toList <;> rfl)

def act0 (fn : Func) (args : Array Value) : Act := { tmps := (args.toList ++ List.replicate (fn.ntmps - args.size) undef).toArray, defers := [] }
/-- A function's text, laid out. -/
theorem fn_eq {f : FuncId} {fn : Func} (hf : P.funcs[f]? = some fn) (hb : fn.body.isSome = true) (hok : codeOk P (bodyOf fn) = true) (args : Array Value) (S : St) :
    callW P W G f args S = gcB (G f) args S (codeK P W (callW P W G) loopW (bodyOf fn) (act0 fn args) S (finK P W fn)) := by
  obtain ⟨c, hc⟩ := Option.isSome_iff_exists.1 hb
  rw [callW_eq, codeK_eq _ _ _ _ hok, finK_eq]
  unfold bodyC bodyOf
  simp only [hf, hc, Option.getD_some]
  have : act0 fn args = { tmps := args ++ Array.replicate (fn.ntmps - args.size) undef, defers := [] } := by
    unfold act0
    congr 1
    rw [← Array.toList_inj]
    simp
  rw [this]
/-- A loop's round, laid out. -/
theorem round_eq {c : Code} (hok : codeOk P c = true) (A : Act) (S : St) : loopAt P W C loopW c A S = codeK P W C loopW c (clr (deadIn c) A) S (roundK P W C loopW c) := by
  rw [codeK_eq _ _ _ _ hok]
  unfold loopAt
  rw [loopW_eq]
  cases codeC P W C loopW c (clr (deadIn c) A) S with
  | none => rfl
  | some x =>
    obtain ⟨e, A1, S1⟩ := x
    cases e <;> rfl
end
end Go.Proofs.YtnnajiaaakkjfaaDoor.E
