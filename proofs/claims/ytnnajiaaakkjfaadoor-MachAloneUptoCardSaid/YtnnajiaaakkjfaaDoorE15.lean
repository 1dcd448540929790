/- A row of operations whose order is open: the invariant. -/
import Derived.Test.YtnnajiaaakkjfaaDoorE14
namespace Go.Proofs.YtnnajiaaakkjfaaDoor.E
open Go Go.RowKit
set_option linter.unusedVariables false

section
variable {P : Program} {W : World} {C : Caller} {ops : Array Oper} {A : Act} {S : St} {φ0 : Emb} {w0 : World}

def Tm (listed : Array Bool) (k : Nat) : Prop := listed.getD k false = true
theorem tm_set {listed : Array Bool} {i k : Nat} (hi : i < listed.size) : Tm (listed.setIfInBounds i true) k ↔ k = i ∨ Tm listed k := by
  unfold Tm
  by_cases h : i = k
  · subst h
    simp [hi]
  · rw [getD_set_ne false h]
    exact ⟨.inr, fun h2 => h2.resolve_left (fun e => h e.symm)⟩

/-- All that is known of the row. -/
structure Row (P : Program) (W : World) (C : Caller) (ops : Array Oper) (A : Act) (S : St) (A' : Act) (S' : St) : Prop where
  hA : CallerA C
  hC : CallerOk P W C
  hG : P.globals.size ≤ W.heap.size
  hops : ∀ o ∈ ops.toList, opOk P o = true
  hreg : regionOk ops = true
  ok : Ok S
  run : opsC P W C ops (flags ops true) A S = some (A', S')

abbrev T (P : Program) (W : World) (C : Caller) (ops : Array Oper) (A : Act) (S : St) (k : Nat) : Act × St := tr P W C ops (flags ops true) (A, S) k

theorem flags_get (k : Nat) : (flags ops true)[k]? = (ops[k]?).map fun o => (o, !pureOp o.op && !inOrder ops k) := by
  unfold flags
  rw [List.getElem?_map, List.getElem?_zipIdx, Array.getElem?_toList, Nat.zero_add]
  cases ops[k]? <;> rfl
theorem flags_len (d : Bool) : (flags ops d).length = ops.size := by unfold flags; simp

/-- May it write what was there? -/
def Loud (ops : Array Oper) (k : Nat) : Prop := ∃ o, ops[k]? = some o ∧ pureOp o.op = false ∧ inOrder ops k = true

variable {A' : Act} {S' : St} (R : Row P W C ops A S A' S')
include R

theorem Row.step {k : Nat} {o : Oper} (ho : ops[k]? = some o) : stepC P W C ops (o, !pureOp o.op && !inOrder ops k) (T P W C ops A S k) = some (T P W C ops A S (k + 1)) :=
  (tr_ok (x0 := (A, S)) R.run).1 k _ (by rw [flags_get, ho]; rfl)
theorem Row.last : T P W C ops A S ops.size = (A', S') := by
  have := (tr_ok (x0 := (A, S)) R.run).2
  rwa [flags_len] at this
theorem Row.oks (k : Nat) (h : k ≤ ops.size) : Ok (T P W C ops A S k).2 := by
  induction k with
  | zero => exact R.ok
  | succ k ih =>
    have ih := ih (by omega)
    have ho : ops[k]? = some ops[k] := Array.getElem?_eq_getElem (by omega)
    exact (stepC_astep R.hA ih (Row.step R ho)).1.ok ih
theorem Row.astep {k : Nat} (h : k < ops.size) : AStep (T P W C ops A S k).2 (T P W C ops A S (k + 1)).2 := by
  have ho : ops[k]? = some ops[k] := Array.getElem?_eq_getElem h
  exact (stepC_astep R.hA (R.oks k (by omega)) (R.step ho)).1
theorem Row.c_mono {i j : Nat} (h : i ≤ j) (hj : j ≤ ops.size) : (T P W C ops A S i).2.c ≤ (T P W C ops A S j).2.c := by
  induction j with
  | zero => have : i = 0 := by omega
            subst this; exact Nat.le_refl _
  | succ j ih =>
    by_cases e : i = j + 1
    · subst e; exact Nat.le_refl _
    · exact Nat.le_trans (ih (by omega) (by omega)) (R.astep (by omega)).c
theorem Row.lock {k : Nat} (h : k ≤ ops.size) : (T P W C ops A S k).2.lock = S.lock := by
  induction k with
  | zero => rfl
  | succ k ih => rw [(R.astep (by omega)).lock, ih (by omega)]
theorem Row.quiet {k : Nat} (h : k < ops.size) (hq : ¬ Loud ops k) {i : Nat} (hi : i < (T P W C ops A S k).2.c) : (T P W C ops A S (k + 1)).2.heap i = (T P W C ops A S k).2.heap i := by
  have ho : ops[k]? = some ops[k] := Array.getElem?_eq_getElem h
  have hs := R.step ho
  by_cases hp : pureOp ops[k].op = true
  · unfold stepC at hs
    split at hs
    · cases hs
    split at hs
    · rw [hp] at hs
      simp only [Bool.not_true, Bool.false_and, Bool.false_eq_true, if_false] at hs
      split at hs
      · rename_i v S1 h1
        have := (pure_same hp h1).1
        rw [← Option.some.inj hs]
        show S1.heap i = _
        rw [this]
      · cases hs
    · rw [← Option.some.inj hs]
  · have hp : pureOp ops[k].op = false := by simpa using hp
    have hin : inOrder ops k = false := by
      cases hx : inOrder ops k with
      | false => rfl
      | true => exact (hq ⟨_, ho, hp, hx⟩).elim
    exact (stepC_astep R.hA (R.oks k (by omega)) hs).2 (by rw [hp, hin]; rfl) i hi
theorem Row.quiets {i j : Nat} (h : i ≤ j) (hj : j ≤ ops.size) (hq : ∀ m, i ≤ m → m < j → ¬ Loud ops m) {x : Nat} (hx : x < (T P W C ops A S i).2.c) : (T P W C ops A S j).2.heap x = (T P W C ops A S i).2.heap x := by
  induction j with
  | zero => have : i = 0 := by omega
            subst this; rfl
  | succ j ih =>
    by_cases e : i = j + 1
    · subst e; rfl
    · rw [R.quiet (by omega) (hq j (by omega) (by omega)) (Nat.lt_of_lt_of_le hx (R.c_mono (by omega) (by omega)))]
      exact ih (by omega) (by omega) (fun m h1 h2 => hq m h1 (by omega))

theorem Row.pure_state {k : Nat} {o : Oper} (ho : ops[k]? = some o) (hp : pureOp o.op = true) : (T P W C ops A S (k + 1)).2 = (T P W C ops A S k).2 := by
  have hs := R.step ho
  unfold stepC at hs
  split at hs
  · cases hs
  split at hs
  · rw [hp] at hs
    simp only [Bool.not_true, Bool.false_and, Bool.false_eq_true, if_false] at hs
    split at hs
    · rename_i v S1 h1
      rw [← Option.some.inj hs]
      exact (pure_same hp h1).1
    · cases hs
  · rw [← Option.some.inj hs]
/-- A slot that nothing writes in between. -/
theorem Row.slot {i j : Nat} (h : i ≤ j) (hj : j ≤ ops.size) {t : Tmp} (hw : ∀ (m : Nat) (o : Oper), i ≤ m → m < j → ops[m]? = some o → o.dst ≠ some t) : (T P W C ops A S j).1.tmps.getD t undef = (T P W C ops A S i).1.tmps.getD t undef := by
  induction j with
  | zero => have : i = 0 := by omega
            subst this; rfl
  | succ j ih =>
    by_cases e : i = j + 1
    · subst e; rfl
    · rw [← ih (by omega) (by omega) (fun m o h1 h2 => hw m o h1 (by omega))]
      have ho : ops[j]? = some ops[j] := Array.getElem?_eq_getElem (by omega)
      have hs := R.step ho
      have hne := hw j ops[j] (by omega) (by omega) ho
      have put : ∀ (a : Act) (v : Value), (a.put ops[j].dst v).tmps.getD t undef = a.tmps.getD t undef := by
        intro a v
        cases hd : ops[j].dst with
        | none => rfl
        | some d =>
          have : d ≠ t := fun e => hne (by rw [hd, e])
          simp only [Act.put, Array.getD_eq_getD_getElem?]
          rw [Array.getElem?_setIfInBounds_ne this]
      unfold stepC at hs
      split at hs
      · cases hs
      split at hs
      · split at hs
        · rw [← Option.some.inj hs]; exact put _ _
        · cases hs
      · rw [← Option.some.inj hs]; exact put _ _
theorem Row.sizes {k : Nat} (h : k ≤ ops.size) : (T P W C ops A S k).1.tmps.size = A.tmps.size ∧ (T P W C ops A S k).1.defers = A.defers := by
  induction k with
  | zero => exact ⟨rfl, rfl⟩
  | succ k ih =>
    have ho : ops[k]? = some ops[k] := Array.getElem?_eq_getElem (by omega)
    have hs := R.step ho
    have put : ∀ (a : Act) (v : Value), (a.put ops[k].dst v).tmps.size = a.tmps.size ∧ (a.put ops[k].dst v).defers = a.defers := by
      intro a v
      cases ops[k].dst with
      | none => exact ⟨rfl, rfl⟩
      | some d => exact ⟨by simp [Act.put], rfl⟩
    have ih := ih (by omega)
    unfold stepC at hs
    split at hs
    · cases hs
    split at hs
    · split at hs
      · rw [← Option.some.inj hs]; exact ⟨(put _ _).1.trans ih.1, (put _ _).2.trans ih.2⟩
      · cases hs
    · rw [← Option.some.inj hs]; exact ⟨(put _ _).1.trans ih.1, (put _ _).2.trans ih.2⟩
/-- The value that the row's k-th operation lays into its slot. -/
theorem Row.wrote {k : Nat} {o : Oper} (ho : ops[k]? = some o) {d : Tmp} (hd : o.dst = some d) : (d < A.tmps.size → ∀ v, T P W C ops A S (k + 1) = ((T P W C ops A S k).1.put o.dst v, (T P W C ops A S (k + 1)).2) → (T P W C ops A S (k + 1)).1.tmps.getD d undef = v) := by
  intro hlt v e
  have hk : k < ops.size := (Array.getElem?_eq_some_iff.1 ho).1
  rw [e, hd]
  have hsz := (R.sizes (k := k) (by omega)).1
  simp only [Act.put, Array.getD_eq_getD_getElem?]
  rw [Array.getElem?_setIfInBounds_self, if_pos (by rw [hsz]; exact hlt)]
  rfl

/-! ### The invariant -/
structure Inv (φ0 : Emb) (w0 : World) (a0 : Act) (listed : Array Bool) (φ : Emb) (a : Act) (w : World) : Prop where
  size : listed.size = ops.size
  closed : ∀ k, Tm listed k → ∀ j, (B ops k).testBit j = true → Tm listed j
  mem : ∃ e, e ≤ ops.size ∧ (∀ k, k < e → Loud ops k → Tm listed k) ∧ (e < ops.size → Loud ops e ∧ ¬ Tm listed e) ∧ Post W φ0 S w0 φ (T P W C ops A S e).2 w
  dom : ∀ i L, φ i = some L → φ0 i = some L ∨ ∃ k, k < ops.size ∧ Tm listed k ∧ (T P W C ops A S k).2.c ≤ i ∧ i < (T P W C ops A S (k + 1)).2.c
  tsz : a.tmps.size = A.tmps.size
  dfr : A.defers = a.defers
  tmps : ∀ t, (∃ k o, Tm listed k ∧ ops[k]? = some o ∧ o.dst = some t ∧ (∀ k' o', Tm listed k' → ops[k']? = some o' → o'.dst = some t → k' ≤ k) ∧ VRel W.heap.size φ ((T P W C ops A S (k + 1)).1.tmps.getD t undef) (a.tmps.getD t undef)) ∨
    ((∀ k' o', Tm listed k' → ops[k']? = some o' → o'.dst ≠ some t) ∧ VRel W.heap.size φ (A.tmps.getD t undef) (a.tmps.getD t undef))
end

section
variable {P : Program} {W : World} {C : Caller} {ops : Array Oper} {A : Act} {S : St} {φ0 : Emb} {w0 : World} {a0 : Act} {A' : Act} {S' : St}

theorem bef_closed (R : Row P W C ops A S A' S') {listed : Array Bool} (hc : ∀ k, Tm listed k → ∀ j, (B ops k).testBit j = true → Tm listed j) {i : Nat} (hi : i ∈ Region.ready .any ops listed) {j : Nat} (hj : (B ops i).testBit j = true) : Tm listed j := by
  obtain ⟨h0, o, ho, hall⟩ := mem_ready.1 hi
  obtain ⟨e, he, hb, hje⟩ := bef_spec (fun k o h => ((regionOk_spec R.hreg).1 k o h).2) ho hj
  have := hall e he hb
  rcases hje with rfl | hje
  · exact this
  · exact hc _ this _ hje

/-- The slots that an operation looks at, when its turn has come. -/
theorem looks_rel (R : Row P W C ops A S A' S') {listed : Array Bool} {φ : Emb} {a : Act} {w : World} (I : Inv (P := P) (W := W) (C := C) (ops := ops) (A := A) (S := S) φ0 w0 a0 listed φ a w) {i : Nat} {o : Oper} (hi : i ∈ Region.ready .any ops listed) (ho : ops[i]? = some o) {t : Tmp} (ht : t ∈ o.looksAt ops) :
    VRel W.heap.size φ ((T P W C ops A S i).1.tmps.getD t undef) (a.tmps.getD t undef) := by
  have hin : i < ops.size := (Array.getElem?_eq_some_iff.1 ho).1
  have hni : ¬ Tm listed i := by
    have := (mem_ready.1 hi).1
    unfold Tm
    rw [Array.getD_eq_getD_getElem?] at this ⊢
    cases hx : listed[i]? with
    | none => simp
    | some b => rw [hx] at this; simp at this; simp [this]
  -- a writer of t ahead of i in the text is listed; one behind it is not
  have ahead : ∀ (k : Nat) (p : Oper), k < i → ops[k]? = some p → p.dst = some t → Tm listed k := by
    intro k p hk hp hd
    refine bef_closed R I.closed hi ((regionOk_spec R.hreg).2 k i p o hk hp ho ?_)
    unfold clash
    rw [hd]
    simp only [Bool.or_eq_true]
    exact .inl (.inl (by simpa using ht))
  have behind : ∀ (k : Nat) (p : Oper), i < k → ops[k]? = some p → p.dst = some t → ¬ Tm listed k := by
    intro k p hk hp hd hT
    refine hni (I.closed k hT i ((regionOk_spec R.hreg).2 i k o p hk ho hp ?_))
    unfold clash
    rw [hd]
    simp only [Bool.or_eq_true]
    exact .inr (by simpa using ht)
  rcases I.tmps t with ⟨k, p, hT, hp, hd, hmax, hv⟩ | ⟨hno, hv⟩
  · have hki : k < i := by
      rcases Nat.lt_trichotomy k i with h | h | h
      · exact h
      · subst h; exact (hni hT).elim
      · exact (behind k p h hp hd hT).elim
    rw [R.slot (i := k + 1) (by omega) (by omega) (t := t) (fun m q h1 h2 hq hdq => by
      have := hmax m q (ahead m q h2 hq hdq) hq hdq
      omega)]
    exact hv
  · rw [R.slot (i := 0) (Nat.zero_le _) (by omega) (t := t) (fun m q h1 h2 hq hdq => hno m q (ahead m q h2 hq hdq) hq hdq)]
    exact hv

theorem Rel.shrink (R : Row P W C ops A S A' S') {φ : Emb} {w : World} {i e : Nat} (hie : i ≤ e) (he : e ≤ ops.size) (hq : ∀ m, i ≤ m → m < e → ¬ Loud ops m) (h : Rel W φ (T P W C ops A S e).2 w) :
    Rel W φ ((T P W C ops A S i).2.relock (T P W C ops A S i).2.c) w := by
  have ok := R.oks i (by omega)
  have hN : W.heap.size ≤ (T P W C ops A S i).2.c := Nat.le_trans (by rw [R.lock (k := i) (by omega), ← R.lock he]; exact h.lockN) ok.1
  have same : ∀ x, x < (T P W C ops A S i).2.c → (T P W C ops A S e).2.heap x = (T P W C ops A S i).2.heap x := fun x hx => R.quiets hie he hq hx
  have key : ∀ x, (T P W C ops A S i).2.heap x ≠ .dead → (T P W C ops A S e).2.heap x = (T P W C ops A S i).2.heap x := fun x hx => same x (Nat.lt_of_not_le fun hh => hx (ok.2 x hh))
  refine ⟨h.below, h.base, hN, ⟨Nat.le_refl _, ok.2⟩, fun x hx => ?_, fun x L ex hx => ?_, fun x y Lx Ly ex ey hx hy hne dx dy => ?_⟩
  · show (T P W C ops A S i).2.heap x = .dead
    rw [← same x (by omega)]; exact h.deadB x hx
  · obtain ⟨a, b, c⟩ := h.blk x L ex hx
    refine ⟨a, b, ?_⟩
    show BRel _ _ _ _ ((T P W C ops A S i).2.heap x)
    by_cases hd : (T P W C ops A S i).2.heap x = .dead
    · rw [hd]; trivial
    · rw [← key x hd]; exact c
  · have dx : (T P W C ops A S i).2.heap x ≠ .dead := dx
    have dy : (T P W C ops A S i).2.heap y ≠ .dead := dy
    exact h.inj x y Lx Ly ex ey hx hy hne (by rw [key x dx]; exact dx) (by rw [key y dy]; exact dy)

theorem Post.lift (R : Row P W C ops A S A' S') {φ : Emb} {w : World} {k e : Nat} (hke : k ≤ e) (he : e ≤ ops.size) (hq : ∀ m, k ≤ m → m < e → ¬ Loud ops m) (h : Post W φ0 S w0 φ (T P W C ops A S k).2 w) (hd : ∀ i L, φ i = some L → i < (T P W C ops A S k).2.c ∨ S'.c ≤ i) :
    Post W φ0 S w0 φ (T P W C ops A S e).2 w := by
  have ok := R.oks e he
  have hlast : (T P W C ops A S ops.size).2.c = S'.c := by rw [R.last]
  have hce := R.c_mono he (Nat.le_refl _)
  have same : ∀ x, (x < (T P W C ops A S k).2.c ∨ S'.c ≤ x) → (T P W C ops A S e).2.heap x = (T P W C ops A S k).2.heap x := fun x hx => by
    rcases hx with hx | hx
    · exact R.quiets hke he hq hx
    · have hck := R.c_mono hke he
      rw [ok.2 x (by omega), (R.oks k (by omega)).2 x (by omega)]
  have hc := R.c_mono hke he
  have hlk : (T P W C ops A S e).2.lock = (T P W C ops A S k).2.lock := by rw [R.lock he, R.lock (by omega)]
  have r := h.rel
  refine ⟨h.ext, ⟨r.below, r.base, by rw [hlk]; exact r.lockN, ok, fun x hx => ?_, fun x L ex hx => ?_, fun x y Lx Ly ex ey hx hy hne dx dy => ?_⟩, fun i L ex => ?_, h.size, h.f1, fun b hb ht => ?_⟩
  · rw [same x (hd x _ (r.base x hx))]; exact r.deadB x hx
  · rw [same x (hd x L ex)]; exact r.blk x L ex hx
  · rw [same x (hd x _ ex)] at dx
    rw [same y (hd y _ ey)] at dy
    exact r.inj x y Lx Ly ex ey hx hy hne dx dy
  · rcases h.dom i L ex with h | h
    · exact .inl h
    · exact .inr ⟨h.1, by omega⟩
  · obtain ⟨i, L, ei, eb, hl, hdd⟩ := ht
    rw [same i (hd i L ei)] at hdd
    exact h.f2 b hb ⟨i, L, ei, eb, by rw [← hlk]; exact hl, hdd⟩

theorem next_loud (listed : Array Bool) (k : Nat) (hk : k ≤ ops.size) : ∃ e, k ≤ e ∧ e ≤ ops.size ∧ (∀ m, k ≤ m → m < e → Loud ops m → Tm listed m) ∧ (e < ops.size → Loud ops e ∧ ¬ Tm listed e) := by
  have : ∀ d k, k + d = ops.size → ∃ e, k ≤ e ∧ e ≤ ops.size ∧ (∀ m, k ≤ m → m < e → Loud ops m → Tm listed m) ∧ (e < ops.size → Loud ops e ∧ ¬ Tm listed e) := by
    intro d
    induction d with
    | zero => intro k hk; exact ⟨k, Nat.le_refl _, by omega, fun m h1 h2 => by omega, fun h => by omega⟩
    | succ d ih =>
      intro k hk
      by_cases hl : Loud ops k ∧ ¬ Tm listed k
      · exact ⟨k, Nat.le_refl _, by omega, fun m h1 h2 => by omega, fun _ => hl⟩
      · obtain ⟨e, h1, h2, h3, h4⟩ := ih (k + 1) (by omega)
        refine ⟨e, by omega, h2, fun m hm1 hm2 hlm => ?_, h4⟩
        by_cases hmk : m = k
        · subst hmk
          exact Classical.byContradiction fun h => hl ⟨hlm, h⟩
        · exact h3 m (by omega) hm2 hlm
  exact this (ops.size - k) k (by omega)
end
end Go.Proofs.YtnnajiaaakkjfaaDoor.E
