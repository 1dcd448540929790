/- An evaluator of Go functions over a memory of its own, and its proof over the model for any program: what it answers, the model answers. No condition. -/
import Derived.ChangeSame
import Derived.Deep.Fields
import Derived.Deep.Slices
import Derived.JoinedCond
import Derived.Laws.Entries
import Derived.Laws.Strings
import Derived.ProofKit
import Derived.SizedLaws
import Derived.Test.YteofdikfdknpbaaRows
import Derived.WalkKit
import Derived.WideShapes
import Derived.Test.YteofdikfdknpbaaREngine0
set_option linter.unusedVariables false
set_option linter.unusedSimpArgs false
section
namespace Go.Proofs.Yteofdikfdknpbaa.E
open Go Go.RowKit
set_option linter.unusedVariables false
section
variable {P : Program} {W : World} {C : Caller}
theorem opsL_run {ops : Array Oper} {r : Act × St} : ∀ {l : List (Oper × Bool)} {k : Nat} {H : List (Nat × St)} {A : Act} {S : St}, opsL P W C ops l k H A S = some r → opsC P W C ops l A S = some r
  | [], k, H, A, S, e => e
  | x :: l, k, H, A, S, e => by
    rw [opsC_cons]
    simp only [opsL] at e
    cases hs : stepC P W C ops x (A, S) with
    | none => rw [hs] at e; cases e
    | some q =>
      rw [hs] at e
      dsimp only at e
      split at e
      · exact opsL_run e
      · cases e
theorem regC_spec {ops : Array Oper} {draw : Bool} {A : Act} {S : St} {r : Act × St} (e : regC P W C ops draw A S = some r) :
    (∀ o ∈ ops.toList, opOk P o = true) ∧ (draw = true → regionOk ops = true) ∧ (opsC P W C ops (flags ops draw) A S = some r ∨ (draw = true ∧ freshL ops = true ∧ opsL P W C ops (flagsL ops) 0 [] A S = some r)) := by
  unfold regC at e
  split at e
  · rename_i h
    simp only [Bool.and_eq_true, Bool.or_eq_true, Bool.not_eq_true', List.all_eq_true] at h
    refine ⟨h.1, fun hd => h.2.resolve_left (by rw [hd]; exact Bool.noConfusion), ?_⟩
    split at e
    · rename_i h2
      simp only [Bool.and_eq_true] at h2
      exact .inr ⟨h2.1.1, h2.2, e⟩
    · exact .inl e
  · cases e
theorem regC_run {ops : Array Oper} {draw : Bool} {A : Act} {S : St} {r : Act × St} (e : regC P W C ops draw A S = some r) : ∃ l, opsC P W C ops l A S = some r := by
  rcases (regC_spec e).2.2 with h | ⟨_, _, h⟩
  · exact ⟨_, h⟩
  · exact ⟨_, opsL_run h⟩
theorem opsL_ok {ops : Array Oper} {l : List (Oper × Bool)} {x0 r : Act × St} (e : opsL P W C ops l 0 [] x0.1 x0.2 = some r) (k : Nat) (x : Oper × Bool) (hx : l[k]? = some x) :
    ∃ H, (∀ m, m < k → loudL ops m = true → (m, (tr P W C ops l x0 m).2) ∈ H) ∧ backL P W ops k x.1 H (tr P W C ops l x0 k).1 (tr P W C ops l x0 k).2 ∧ foreL P W ops k (tr P W C ops l x0 k).1 (tr P W C ops l x0 k).2 (tr P W C ops l x0 (k + 1)).2 := by
  obtain ⟨t1, t2⟩ := tr_ok (x0 := x0) (opsL_run e)
  have key : ∀ k, k ≤ l.length → ∃ H, opsL P W C ops (l.drop k) k H (tr P W C ops l x0 k).1 (tr P W C ops l x0 k).2 = some r ∧ (∀ m, m < k → loudL ops m = true → (m, (tr P W C ops l x0 m).2) ∈ H) := by
    intro k
    induction k with
    | zero => intro _; exact ⟨[], by rw [List.drop_zero]; exact e, fun m hm => by omega⟩
    | succ k ih =>
      intro hk
      obtain ⟨H, ih1, ih2⟩ := ih (by omega)
      have hx : l[k]? = some (l[k]'(by omega)) := List.getElem?_eq_getElem (by omega)
      rw [List.drop_eq_getElem_cons (by omega : k < l.length)] at ih1
      simp only [opsL] at ih1
      have hs : stepC P W C ops (l[k]'(by omega)) ((tr P W C ops l x0 k).1, (tr P W C ops l x0 k).2) = some (tr P W C ops l x0 (k + 1)) := t1 k _ hx
      rw [hs] at ih1
      dsimp only at ih1
      split at ih1
      · refine ⟨_, ih1, fun m hm hl => ?_⟩
        rcases Nat.lt_or_ge m k with h | h
        · have := ih2 m h hl
          split
          · exact List.mem_cons_of_mem _ this
          · exact this
        · obtain rfl : m = k := by omega
          rw [if_pos hl]
          exact List.mem_cons_self
      · cases ih1
  have hk : k < l.length := (List.getElem?_eq_some_iff.1 hx).1
  obtain ⟨H, h1, h2⟩ := key k (by omega)
  rw [List.drop_eq_getElem_cons hk] at h1
  simp only [opsL] at h1
  have hxx : l[k] = x := by have := List.getElem?_eq_getElem hk; rw [hx] at this; exact (Option.some.inj this).symm
  have hs : stepC P W C ops l[k] ((tr P W C ops l x0 k).1, (tr P W C ops l x0 k).2) = some (tr P W C ops l x0 (k + 1)) := t1 k _ (List.getElem?_eq_getElem hk)
  rw [hs] at h1
  dsimp only at h1
  split at h1
  · rename_i hc
    rw [hxx] at hc
    exact ⟨H, h2, hc.1, hc.2⟩
  · cases h1
theorem inOrderL_spec {ops : Array Oper} {k : Nat} (h : inOrderL ops k = true) {j : Nat} {o : Oper} (ho : ops[j]? = some o) (hp : pureOp o.op = false) (hl : isLoad o.op = false) (hne : j ≠ k) : (j < k → (B ops k).testBit j = true) ∧ (k < j → (B ops j).testBit k = true) := by
  unfold inOrderL at h
  simp only [List.all_eq_true] at h
  have := h (o, j) (by rw [List.mem_zipIdx_iff_getElem?, Array.getElem?_toList]; exact ho)
  simp only [hp, hl, Bool.false_or, Bool.or_eq_true, beq_iff_eq] at this
  have := this.resolve_left (fun e => hne e.symm)
  refine ⟨fun hlt => ?_, fun hlt => ?_⟩
  · rw [if_pos hlt] at this; exact this
  · rw [if_neg (by omega)] at this; exact this
theorem loadAt_of {ops : Array Oper} {k : Nat} {o : Oper} (ho : ops[k]? = some o) : loadAt ops k = isLoad o.op := by unfold loadAt; rw [ho]
theorem draw_sound (hm : P.follows .mixedOrders = true) {id : Nat} {ops : Array Oper} {fl ord : Nat → Bool} {φ : Emb} {A a A' : Act} {S S' : St} {w : World} {Q : Exit → Act → World → Prop}
    (R : Row P W C ops fl ord A S A' S') (h : Rel W φ S w) (ha : ActRel W.heap.size φ A a) (hf : Free φ S.c S'.c)
    (hQ : ∀ φ' a' w', ActRel W.heap.size φ' A' a' → Post W φ S w φ' S' w' → Q .normal a' w') : (Code.region id ops true).wp P Q a w := by
  refine wp_region_any hm ?_
  have p0 := Post.drew h
  have none_listed : ∀ k, ¬ Tm (Array.replicate ops.size false) k := by
    intro k hk
    unfold Tm at hk
    rw [Array.getD_eq_getD_getElem?, Array.getElem?_replicate] at hk
    split at hk <;> simp at hk
  refine any_sound (φ0 := φ) (w0 := { w with drawn := w.drawn + 1 }) (a0 := a) R hf (fun φ' a' w' ha' hp => hQ φ' a' w' ha' (p0.trans (Nat.le_refl _) (by
    have := R.c_mono (Nat.zero_le ops.size) (Nat.le_refl _)
    rw [R.last] at this
    exact this) hp)) ops.size _ φ a _ ?_ (Nat.le_trans List.countP_le_length (by rw [List.length_range]; exact Nat.le_refl _))
  obtain ⟨e', n1, n2, n3, n4⟩ := next_loud (ops := ops) (fl := fl) (ord := ord) (Array.replicate ops.size false) 0 (Nat.zero_le _)
  refine ⟨by simp, fun k hk => (none_listed k hk).elim, ⟨e', n2, fun k hk hl => n3 k (Nat.zero_le _) hk hl, n4, ?_⟩, fun i L ei => .inl ei, ha.1.size.symm, ha.2, fun t => .inr ⟨fun k' o' hk' => (none_listed k' hk').elim, ha.1.getD t⟩⟩
  refine Post.lift R n1 n2 (fun m m1 m2 hl => none_listed m (n3 m m1 m2 hl)) (Post.refl p0.rel) fun i L ei => ?_
  show i < S.c ∨ S'.c ≤ i
  rcases Nat.lt_or_ge i S.c with hi | hi
  · exact .inl hi
  · rcases Nat.lt_or_ge i S'.c with hi' | hi'
    · rw [hf i hi hi'] at ei; cases ei
    · exact .inr hi'
theorem reg_sound (hA : CallerA C) (hC : CallerOk P W C) (hG : P.globals.size ≤ W.heap.size) (hm : P.follows .mixedOrders = true) {id : Nat} {ops : Array Oper} {draw : Bool} {φ : Emb} {A a A' : Act} {S S' : St} {w : World} {Q : Exit → Act → World → Prop}
    (e : regC P W C ops draw A S = some (A', S')) (h : Rel W φ S w) (ha : ActRel W.heap.size φ A a) (hf : Free φ S.c S'.c)
    (hQ : ∀ φ' a' w', ActRel W.heap.size φ' A' a' → Post W φ S w φ' S' w' → Q .normal a' w') : (Code.region id ops draw).wp P Q a w := by
  obtain ⟨h1, h2, h3⟩ := regC_spec e
  cases draw with
  | false =>
    have h3 := h3.resolve_right (fun h => by cases h.1)
    refine wp_region ?_
    have hl : (flags ops false).map (·.1) = ops.toList.drop 0 := by
      unfold flags
      rw [List.map_map, List.drop_zero]
      refine List.ext_getElem? fun i => ?_
      rw [List.getElem?_map, List.getElem?_zipIdx]
      cases ops.toList[i]? <;> rfl
    have := seq_sound (ops := ops) hA hC hG h1 (flags ops false) 0 φ A a S w hl (fun x hx => by
      unfold flags at hx
      obtain ⟨y, _, rfl⟩ := List.mem_map.1 hx
      rfl) h3 h ha hf hQ
    rw [flags_len] at this
    rwa [List.range_eq_range']
  | true =>
    rcases h3 with h3 | ⟨_, hfr, h3⟩
    · have hfl : flags ops true = flagsX ops (fun _ => false) (inOrder ops) := by
        refine List.ext_getElem? fun i => ?_
        rw [flagsX_get]
        unfold flags
        rw [List.getElem?_map, List.getElem?_zipIdx, Array.getElem?_toList, Nat.zero_add]
        cases ops[i]? with
        | none => rfl
        | some o => simp
      rw [hfl] at h3
      have R : Row P W C ops (fun _ => false) (inOrder ops) A S A' S' := ⟨hA, hC, hG, h1, h2 rfl, h.ok, h3, fun k o _ hf => Bool.noConfusion hf, fun k hk j o ho hp _ hne => inOrder_spec hk ho hp hne, fun m i o _ _ hf => Bool.noConfusion hf, fun i m o _ _ _ hf => Bool.noConfusion hf, fun i m o p _ _ hf => Bool.noConfusion hf⟩
      exact draw_sound hm R h ha hf hQ
    · have hfl : flagsL ops = flagsX ops (loadAt ops) (inOrderL ops) := by
        refine List.ext_getElem? fun i => ?_
        rw [flagsX_get]
        unfold flagsL
        rw [List.getElem?_map, List.getElem?_zipIdx, Array.getElem?_toList, Nat.zero_add]
        cases ho : ops[i]? with
        | none => rfl
        | some o => simp [loadAt_of ho]
      have hk := fun k x hx => opsL_ok (P := P) (W := W) (C := C) (x0 := (A, S)) h3 k x hx
      rw [hfl] at hk
      have hloud : ∀ k, Loud ops (loadAt ops) (inOrderL ops) k → loudL ops k = true := by
        rintro k ⟨o, ho, hp, hl, hi⟩
        rw [loadAt_of ho] at hl
        unfold loudL
        rw [ho]
        simp [hp, hl, hi]
      have R : Row P W C ops (loadAt ops) (inOrderL ops) A S A' S' := by
        refine ⟨hA, hC, hG, h1, h2 rfl, h.ok, by rw [← hfl]; exact opsL_run h3, fun k o ho hf => by rwa [loadAt_of ho] at hf, fun k hk j o ho hp hl hne => inOrderL_spec hk ho hp (by rwa [loadAt_of ho] at hl) hne, fun m i o hmi ho hf hw hl hB => ?_, fun i m o him hms ho hf hl hB => ?_, fun i m o p him ho hf hp d hd hm => ?_⟩
        · obtain ⟨H, g1, g2, g3⟩ := hk i _ (by rw [flagsX_get, ho]; rfl)
          refine g2 (by rwa [loadAt_of ho] at hf) hw _ (g1 m hmi (hloud m hl)) ?_
          show (!(B ops i).testBit m) = true
          rw [hB]; rfl
        · have hom : ops[m]? = some ops[m] := Array.getElem?_eq_getElem hms
          obtain ⟨H, g1, g2, g3⟩ := hk m _ (by rw [flagsX_get, hom]; rfl)
          refine g3 (hloud m hl) i o him ho (by rwa [loadAt_of ho] at hf) ?_
          show (!(B ops m).testBit i) = true
          rw [hB]; rfl
        · unfold freshL at hfr
          rw [loadAt_of ho] at hf
          simp only [List.all_eq_true] at hfr
          have := hfr (o, i) (by rw [List.mem_zipIdx_iff_getElem?, Array.getElem?_toList]; exact ho)
          simp only [hf, Bool.not_true, Bool.false_or, List.all_eq_true] at this
          have := this (p, m) (by rw [List.mem_zipIdx_iff_getElem?, Array.getElem?_toList]; exact hp)
          simp only [hd, Bool.or_eq_true, decide_eq_true_eq, Bool.not_eq_true', List.contains_eq_mem, decide_eq_false_iff_not] at this
          rcases this with h | h
          · omega
          · exact h hm
      exact draw_sound hm R h ha hf hQ
theorem reg_astep (hA : CallerA C) {ops : Array Oper} {draw : Bool} {A A' : Act} {S S' : St} (ok : Ok S) (e : regC P W C ops draw A S = some (A', S')) : AStep S S' := by
  obtain ⟨l, h⟩ := regC_run e
  exact opsC_astep hA ok h
def BodyA (f : Act → St → Out) : Prop := ∀ A S e A' S', Ok S → f A S = some (e, A', S') → AStep S S'
theorem loopN_astep {f : Act → St → Out} (hf : BodyA f) : ∀ n, BodyA (loopN f n)
  | 0, A, S, e, A', S', ok, h => by cases h
  | n + 1, A, S, e, A', S', ok, h => by
    simp only [loopN] at h
    split at h
    · rename_i A1 S1 h1
      have a := hf _ _ _ _ _ ok h1
      exact a.trans (loopN_astep hf n _ _ _ _ _ (a.ok ok) h)
    · exact hf _ _ _ _ _ ok h
theorem clrOut_spec {ts : List Tmp} {r : Out} {e : Exit} {A' : Act} {S' : St} (h : clrOut ts r = some (e, A', S')) : ∃ A1, r = some (e, A1, S') ∧ ((e = .normal ∧ A' = clr ts A1) ∨ (e ≠ .normal ∧ A' = A1)) := by
  cases r with
  | none => cases h
  | some x =>
    obtain ⟨ex, A1, S1⟩ := x
    cases ex <;> (simp only [clrOut, Option.some.injEq, Prod.mk.injEq] at h; obtain ⟨rfl, rfl, rfl⟩ := h; first | exact ⟨_, rfl, .inl ⟨rfl, rfl⟩⟩ | exact ⟨_, rfl, .inr ⟨fun h => (by cases h), rfl⟩⟩)
theorem clrOut_astep {f : Act → St → Out} (hf : BodyA f) (ts : List Tmp) : BodyA fun A S => clrOut ts (f A S) := by
  intro A S e A' S' ok h
  obtain ⟨A1, h1, _⟩ := clrOut_spec h
  exact hf _ _ _ _ _ ok h1
theorem clr_rel {N : Nat} {φ : Emb} {A a : Act} (ts : List Tmp) (h : ActRel N φ A a) : ActRel N φ (clr ts A) a := by
  refine ⟨?_, h.2⟩
  have : ∀ (ts : List Tmp) (u : Array Value), RRel N φ u a.tmps → RRel N φ (ts.foldl (fun a t => a.setIfInBounds t junk) u) a.tmps := by
    intro ts
    induction ts with
    | nil => intro u hu; exact hu
    | cons t ts ih =>
      intro u hu
      rw [List.foldl_cons]
      refine ih _ ⟨by simpa using hu.1, fun i v hv => ?_⟩
      rw [Array.toList_setIfInBounds, List.getElem?_set] at hv
      split at hv
      · rename_i hti
        split at hv
        · rename_i hlt
          cases hv
          have hi : i < a.tmps.toList.length := by rw [← hu.1, ← hti]; exact hlt
          exact ⟨a.tmps.toList[i], List.getElem?_eq_getElem hi, .any _⟩
        · cases hv
      · exact hu.2 i v hv
  exact this ts _ h.1
theorem code_astep (hA : CallerA C) (n : Nat) : ∀ c : Code, BodyA (codeC P W C (fun b => loopN b n) c) := by
  intro c
  induction c with
  | skip => intro A S e A' S' ok h; cases h; exact AStep.refl S
  | label l => intro A S e A' S' ok h; cases h; exact AStep.refl S
  | exit id => intro A S e A' S' ok h; cases h; exact AStep.refl S
  | ret => intro A S e A' S' ok h; cases h; exact AStep.refl S
  | goto l => intro A S e A' S' ok h; cases h
  | refuse w => intro A S e A' S' ok h; cases h
  | rangeFunc f p a b => intro A S e A' S' ok h; cases h
  | region id ops draw =>
    intro A S e A' S' ok h
    simp only [codeC] at h
    split at h
    · cases h; exact reg_astep hA ok ‹_›
    · cases h
  | seq a b iha ihb =>
    intro A S e A' S' ok h
    simp only [codeC] at h
    split at h
    · have a1 := iha _ _ _ _ _ ok ‹_›
      exact a1.trans (ihb _ _ _ _ _ (a1.ok ok) h)
    · exact iha _ _ _ _ _ ok h
  | cond c a b iha ihb =>
    intro A S e A' S' ok h
    simp only [codeC] at h
    split at h
    · exact iha _ _ _ _ _ ok h
    · exact ihb _ _ _ _ _ ok h
    · cases h
  | block id a iha =>
    intro A S e A' S' ok h
    simp only [codeC] at h
    split at h
    · rename_i i A1 S1 h1
      split at h <;> (cases h; exact iha _ _ _ _ _ ok h1)
    · exact iha _ _ _ _ _ ok h
  | loop a iha =>
    intro A S e A' S' ok h
    exact loopN_astep (clrOut_astep iha _) n _ _ _ _ _ ok h
  | scope a iha =>
    intro A S e A' S' ok h
    simp only [codeC] at h
    split at h
    · cases h
    · exact iha _ _ _ _ _ ok h
theorem put_defers (A : Act) (d : Option Tmp) (v : Value) : (A.put d v).defers = A.defers := by cases d <;> rfl
theorem opsC_defers {ops : Array Oper} : ∀ {l : List (Oper × Bool)} {A A' : Act} {S S' : St}, opsC P W C ops l A S = some (A', S') → A'.defers = A.defers
  | [], A, A', S, S', e => by simp only [opsC, Option.some.injEq, Prod.mk.injEq] at e; rw [e.1]
  | x :: l, A, A', S, S', e => by
    rw [opsC_cons] at e
    cases h : stepC P W C ops x (A, S) with
    | none => rw [h] at e; cases e
    | some r =>
      rw [h] at e
      rw [opsC_defers e]
      unfold stepC at h
      split at h
      · cases h
      split at h
      · split at h
        · cases h; exact put_defers _ _ _
        · cases h
      · cases h; exact put_defers _ _ _
def BodyD (f : Act → St → Out) : Prop := ∀ A S e A' S', f A S = some (e, A', S') → A'.defers = A.defers
theorem loopN_defers {f : Act → St → Out} (hf : BodyD f) : ∀ n, BodyD (loopN f n)
  | 0, A, S, e, A', S', h => by cases h
  | n + 1, A, S, e, A', S', h => by
    simp only [loopN] at h
    split at h
    · rename_i A1 S1 h1
      exact (loopN_defers hf n _ _ _ _ _ h).trans (hf _ _ _ _ _ h1)
    · exact hf _ _ _ _ _ h
theorem code_defers (n : Nat) : ∀ c : Code, BodyD (codeC P W C (fun b => loopN b n) c) := by
  intro c
  induction c with
  | skip => intro A S e A' S' h; cases h; rfl
  | label l => intro A S e A' S' h; cases h; rfl
  | exit id => intro A S e A' S' h; cases h; rfl
  | ret => intro A S e A' S' h; cases h; rfl
  | goto l => intro A S e A' S' h; cases h
  | refuse w => intro A S e A' S' h; cases h
  | rangeFunc f p a b => intro A S e A' S' h; cases h
  | region id ops draw =>
    intro A S e A' S' h
    simp only [codeC] at h
    split at h
    · cases h; exact (regC_run ‹_›).elim fun l h => opsC_defers h
    · cases h
  | seq a b iha ihb =>
    intro A S e A' S' h
    simp only [codeC] at h
    split at h
    · exact (ihb _ _ _ _ _ h).trans (iha _ _ _ _ _ ‹_›)
    · exact iha _ _ _ _ _ h
  | cond c a b iha ihb =>
    intro A S e A' S' h
    simp only [codeC] at h
    split at h
    · exact iha _ _ _ _ _ h
    · exact ihb _ _ _ _ _ h
    · cases h
  | block id a iha =>
    intro A S e A' S' h
    simp only [codeC] at h
    split at h
    · rename_i i A1 S1 h1
      split at h <;> (cases h; exact iha _ _ _ _ _ h1)
    · exact iha _ _ _ _ _ h
  | loop a iha =>
    intro A S e A' S' h
    simp only [codeC] at h
    have hb : BodyD fun A S => clrOut (deadIn a) (codeC P W C (fun b => loopN b n) a A S) := by
      intro A S e A' S' h
      obtain ⟨A1, h1, h2⟩ := clrOut_spec h
      have := iha _ _ _ _ _ h1
      rcases h2 with ⟨_, h2⟩ | ⟨_, h2⟩
      · rw [h2]; exact this
      · rw [h2]; exact this
    have := loopN_defers hb n _ _ _ _ _ h
    exact this
  | scope a iha =>
    intro A S e A' S' h
    simp only [codeC] at h
    split at h
    · cases h
    · exact iha _ _ _ _ _ h
def BodyOk (P : Program) (W : World) (c : Code) (f : Act → St → Out) : Prop :=
  ∀ (Q : Exit → Act → World → Prop) (A S e A' S'), f A S = some (e, A', S') → ∀ (φ : Emb) (a : Act) (w : World), Rel W φ S w → ActRel W.heap.size φ A a → Free φ S.c S'.c →
    (∀ φ' a' w', ActRel W.heap.size φ' A' a' → Post W φ S w φ' S' w' → Q e a' w') → c.wp P Q a w
theorem loopN_rounds {c : Code} {f : Act → St → Out} (hA : BodyA f) (hf : BodyOk P W c f) : ∀ (n : Nat) (Q : Exit → Act → World → Prop) (A S e A' S'), loopN f n A S = some (e, A', S') → ∀ (φ : Emb) (a : Act) (w : World), Rel W φ S w → ActRel W.heap.size φ A a → Free φ S.c S'.c →
    (∀ φ' a' w', ActRel W.heap.size φ' A' a' → Post W φ S w φ' S' w' → Q e a' w') → Code.rounds P c Q n a w
  | 0, Q, A, S, e, A', S', h, φ, a, w, hr, ha, hfr, hQ => by cases h
  | n + 1, Q, A, S, e, A', S', h, φ, a, w, hr, ha, hfr, hQ => by
    rw [rounds_succ]
    simp only [loopN] at h
    split at h
    · rename_i A1 S1 h1
      have a1 := hA _ _ _ _ _ hr.ok h1
      have a2 := loopN_astep hA n _ _ _ _ _ (a1.ok hr.ok) h
      refine hf _ _ _ _ _ _ h1 φ a w hr ha (free_left a2.c hfr) fun φ' a' w' ha' hp => ?_
      exact loopN_rounds hA hf n Q A1 S1 e A' S' h φ' a' w' hp.rel ha' (free_step a1.c hfr hp) fun φ2 a2' w2 ha2 hp2 => hQ φ2 a2' w2 ha2 (hp.trans a1.c a2.c hp2)
    · rename_i hn
      refine hf _ _ _ _ _ _ h φ a w hr ha hfr fun φ' a' w' ha' hp => ?_
      have := hQ φ' a' w' ha' hp
      cases e with
      | normal => exact (hn _ _ h).elim
      | _ => exact this
theorem code_sound (hA : CallerA C) (hC : CallerOk P W C) (hG : P.globals.size ≤ W.heap.size) (hm : P.follows .mixedOrders = true) (n : Nat) : ∀ c : Code, BodyOk P W c (codeC P W C (fun b => loopN b n) c) := by
  intro c
  induction c with
  | skip => intro Q A S e A' S' h φ a w hr ha hf hQ; cases h; exact wp_skip (hQ φ a w ha (Post.refl hr))
  | label l => intro Q A S e A' S' h φ a w hr ha hf hQ; cases h; exact wp_label (hQ φ a w ha (Post.refl hr))
  | exit id => intro Q A S e A' S' h φ a w hr ha hf hQ; cases h; exact wp_exit (hQ φ a w ha (Post.refl hr))
  | ret => intro Q A S e A' S' h φ a w hr ha hf hQ; cases h; exact wp_ret (hQ φ a w ha (Post.refl hr))
  | goto l => intro Q A S e A' S' h; cases h
  | refuse w => intro Q A S e A' S' h; cases h
  | rangeFunc f p a b => intro Q A S e A' S' h; cases h
  | region id ops draw =>
    intro Q A S e A' S' h φ a w hr ha hf hQ
    simp only [codeC] at h
    split at h
    · cases h; exact reg_sound hA hC hG hm ‹_› hr ha hf hQ
    · cases h
  | seq x y ihx ihy =>
    intro Q A S e A' S' h φ a w hr ha hf hQ
    simp only [codeC] at h
    refine wp_seq ?_
    split at h
    · rename_i A1 S1 h1
      have a1 := code_astep hA n x _ _ _ _ _ hr.ok h1
      have a2 := code_astep hA n y _ _ _ _ _ (a1.ok hr.ok) h
      refine ihx _ _ _ _ _ _ h1 φ a w hr ha (free_left a2.c hf) fun φ' a' w' ha' hp => ?_
      exact ihy Q _ _ _ _ _ h φ' a' w' hp.rel ha' (free_step a1.c hf hp) fun φ2 a2' w2 ha2 hp2 => hQ φ2 a2' w2 ha2 (hp.trans a1.c a2.c hp2)
    · rename_i hn
      refine ihx _ _ _ _ _ _ h φ a w hr ha hf fun φ' a' w' ha' hp => ?_
      have := hQ φ' a' w' ha' hp
      cases e with
      | normal => exact (hn _ _ h).elim
      | _ => exact this
  | cond c x y ihx ihy =>
    intro Q A S e A' S' h φ a w hr ha hf hQ
    simp only [codeC] at h
    have hv : ∀ b, A.eval c = .bool b → a.eval c = .bool b := by
      intro b hb
      cases c with
      | tmp t =>
        have := act_getD ha t
        simp only [Act.eval] at hb ⊢
        rw [hb] at this
        generalize a.tmps.getD t undef = q at this
        cases this; rfl
      | const v => exact hb
      | global g => cases hb
      | func f => cases hb
    split at h
    · exact wp_cond_true (hv _ ‹_›) (ihx Q _ _ _ _ _ h φ a w hr ha hf hQ)
    · exact wp_cond_false (hv _ ‹_›) (ihy Q _ _ _ _ _ h φ a w hr ha hf hQ)
    · cases h
  | block id x ihx =>
    intro Q A S e A' S' h φ a w hr ha hf hQ
    simp only [codeC] at h
    refine wp_block ?_
    split at h
    · rename_i i A1 S1 h1
      split at h
      · rename_i hi
        cases h
        subst hi
        refine ihx _ _ _ _ _ _ h1 φ a w hr ha hf fun φ' a' w' ha' hp => ?_
        simp only [Exit.inBlock]
        simpa using hQ φ' a' w' ha' hp
      · rename_i hi
        cases h
        refine ihx _ _ _ _ _ _ h1 φ a w hr ha hf fun φ' a' w' ha' hp => ?_
        simp only [Exit.inBlock]
        simpa [hi] using hQ φ' a' w' ha' hp
    · rename_i hn
      refine ihx _ _ _ _ _ _ h φ a w hr ha hf fun φ' a' w' ha' hp => ?_
      have := hQ φ' a' w' ha' hp
      cases e with
      | exit i => exact (hn _ _ _ h).elim
      | _ => exact this
  | loop x ihx =>
    intro Q A S e A' S' h φ a w hr ha hf hQ
    refine wp_loop_rounds n (loopN_rounds (clrOut_astep (code_astep hA n x) (deadIn x)) (fun Q A S e A' S' h φ a w hr ha hf hQ => ?_) n Q _ S e A' S' h φ a w hr (clr_rel _ ha) hf hQ)
    obtain ⟨A1, h1, h2⟩ := clrOut_spec h
    refine ihx Q _ _ _ _ _ h1 φ a w hr ha hf fun φ' a' w' ha' hp => hQ φ' a' w' ?_ hp
    rcases h2 with ⟨_, h2⟩ | ⟨_, h2⟩
    · rw [h2]; exact clr_rel _ ha'
    · rw [h2]; exact ha'
  | scope x ihx =>
    intro Q A S e A' S' h φ a w hr ha hf hQ
    simp only [codeC] at h
    refine wp_scope_straight ?_
    split at h
    · cases h
    · rename_i hn
      refine ihx _ _ _ _ _ _ h φ a w hr ha hf fun φ' a' w' ha' hp => ?_
      have := hQ φ' a' w' ha' hp
      cases e with
      | goto l => exact (hn _ _ _ h).elim
      | _ => exact this
theorem resL_run {S : St} {φ : Emb} {w : World} (h : Rel W φ S w) {t t' : Array Value} (ht : RRel W.heap.size φ t t') : ∀ (rs : List ResultVar) (l : List Value), resL P W S t rs = some l →
    ∃ l', LRel W.heap.size φ l l' ∧ (rs.mapM fun | .tmp i => pure (t'.getD i undef) | .cell a ty => do loadVar ty (← asAddr (t'.getD a undef)) : Sem (List Value)).run P w = .ok l' w
  | [], l, e => by simp only [resL, Option.some.injEq] at e; subst e; exact ⟨[], LRel.nil, rfl⟩
  | r :: rs, l, e => by
    simp only [resL] at e
    split at e
    · rename_i v hv
      split at e
      · rename_i l1 h1
        cases e
        obtain ⟨l', a, b⟩ := resL_run h ht rs l1 h1
        rw [List.mapM_cons]
        cases r with
        | tmp i =>
          simp only [resV, Option.some.injEq] at hv
          subst hv
          refine ⟨_, LRel.cons (ht.getD i) a, ?_⟩
          dsimp only
          rw [run_bind_ok (runPure _ _), run_bind_ok b]
          rfl
        | cell ad ty =>
          simp only [resV] at hv
          obtain ⟨v', c1, c2⟩ := load_run (P := P) h (ht.getD ad) hv
          refine ⟨_, LRel.cons c2 a, ?_⟩
          dsimp only
          have had : (do loadVar ty (← asAddr (t'.getD ad undef)) : Sem Value).run P w = .ok v' w := by
            unfold Instr.loadAt at c1
            generalize t'.getD ad undef = q at c1
            cases q <;> first | (simp [Instr.sureAddr, stuck] at c1; done) | skip
            rename_i p
            cases p with
            | none => simp [Instr.sureAddr, stuck] at c1
            | some p => exact c1
          rw [run_bind_ok had, run_bind_ok b]
          rfl
      · cases e
    · cases e
theorem finish_run {S : St} {φ : Emb} {w : World} (h : Rel W φ S w) {t t' : Array Value} (ht : RRel W.heap.size φ t t') {fn : Func} {l : List Value} (e : resL P W S t fn.results.toList = some l) :
    ∃ v', (results fn t').run P w = .ok v' w ∧ VRel W.heap.size φ (packed l) v' := by
  obtain ⟨l', a, b⟩ := resL_run h ht _ _ e
  have hm : (fn.results.mapM fun | .tmp i => pure (t'.getD i undef) | .cell a ty => do loadVar ty (← asAddr (t'.getD a undef)) : Sem (Array Value)).run P w = .ok l'.toArray w := by
    rw [Array.mapM_eq_mapM_toList, Sem.run_map]
    have b : (fn.results.toList.mapM fun | .tmp i => pure (t'.getD i undef) | .cell a ty => do loadVar ty (← asAddr (t'.getD a undef)) : Sem (List Value)).run P w = .ok l' w := b
    rw [b]
    rfl
  refine ⟨if h : l'.toArray.size = 1 then l'.toArray[0] else .tuple l'.toArray, ?_, ?_⟩
  · unfold results
    exact (run_bind_ok hm).trans rfl
  · cases l with
    | nil => rw [LRel.of_nil a]; exact VRel.tuple' (u := #[]) (u' := #[]) LRel.nil
    | cons v l =>
      obtain ⟨v', r, rfl, h1, h2⟩ := a.uncons
      cases l with
      | nil => rw [LRel.of_nil h2]; exact h1
      | cons u l =>
        obtain ⟨u', r', rfl, h3, h4⟩ := h2.uncons
        rw [dif_neg (by simp)]
        exact VRel.tuple' (u := (v :: u :: l).toArray) (u' := (v' :: u' :: r').toArray) (LRel.cons h1 (LRel.cons h3 h4))
theorem finish_spec {fn : Func} {r : Out} {v : Value} {S' : St} (e : finish P W fn r = some (v, S')) : ∃ ex A l, r = some (ex, A, S') ∧ (ex = .normal ∨ ex = .ret) ∧ resL P W S' A.tmps fn.results.toList = some l ∧ v = packed l := by
  unfold finish at e
  split at e
  · split at e
    · cases e; exact ⟨_, _, _, rfl, .inl rfl, ‹_›, rfl⟩
    · cases e
  · split at e
    · cases e; exact ⟨_, _, _, rfl, .inr rfl, ‹_›, rfl⟩
    · cases e
  · cases e
def cut (n : Nat) (φ : Emb) : Emb := fun i => if i < n then φ i else none
theorem cut_le (n : Nat) (φ : Emb) : ELe (cut n φ) φ := fun i L e => by
  unfold cut at e
  split at e
  · exact e
  · cases e
theorem vlt0_rel {N n : Nat} {φ : Emb} {v v' : Value} (h : vlt0 n v = true) (k : VRel N φ v v') : VRel N (cut n φ) v v' := by
  cases k with
  | ptr h1 =>
    obtain ⟨L, e, r⟩ := h1
    exact .ptr ⟨L, by unfold cut; rw [if_pos (of_decide_eq_true h)]; exact e, r⟩
  | sl h1 =>
    obtain ⟨L, e, r⟩ := h1
    exact .sl ⟨L, by unfold cut; rw [if_pos (of_decide_eq_true h)]; exact e, r⟩
  | map h1 h2 => exact .map (by unfold cut; rw [if_pos (of_decide_eq_true h)]; exact h1) h2
  | func => cases h
  | agg => cases h
  | tuple => cases h
  | bool => exact .bool _
  | int => exact .int _ _
  | float => exact .float _ _
  | string => exact .string _
  | nilPtr => exact .nilPtr
  | nilSl => exact .nilSl _ _
  | sl0 h1 => exact .sl0 h1
  | nilMap => exact .nilMap
  | nilFunc => exact .nilFunc
  | any => exact .any _
theorem all_get {p : Value → Bool} {u : Array Value} (h : u.all p = true) (i : Nat) (hi : i < u.size) : p u[i] = true := by
  rw [Array.all_eq_true_iff_forall_mem] at h
  exact h _ (Array.getElem_mem hi)
theorem vlt1_rel {N n : Nat} {φ : Emb} {v v' : Value} (h : vlt1 n v = true) (k : VRel N φ v v') : VRel N (cut n φ) v v' := by
  cases k with
  | func fn h1 h2 h3 h4 =>
    simp only [vlt1, Bool.and_eq_true] at h
    exact .func fn h1 (fun i a b => vlt0_rel (all_get h.1 i a) (h2 i a b)) h3 (fun i a b => vlt0_rel (all_get h.2 i a) (h4 i a b))
  | ptr h1 => exact vlt0_rel h (.ptr h1)
  | sl h1 => exact vlt0_rel h (.sl h1)
  | map h1 h2 => exact vlt0_rel h (.map h1 h2)
  | agg => cases h
  | tuple => cases h
  | bool => exact .bool _
  | int => exact .int _ _
  | float => exact .float _ _
  | string => exact .string _
  | nilPtr => exact .nilPtr
  | nilSl => exact .nilSl _ _
  | sl0 h1 => exact .sl0 h1
  | nilMap => exact .nilMap
  | nilFunc => exact .nilFunc
  | any => exact .any _
theorem vlt_rel {N n : Nat} {φ : Emb} {v v' : Value} (h : vlt n v = true) (k : VRel N φ v v') : VRel N (cut n φ) v v' := by
  cases v with
  | agg cs =>
    cases k with
    | agg h1 h2 => exact .agg h1 (fun i a b => vlt1_rel (all_get (by exact h) i a) (h2 i a b))
  | _ => exact vlt1_rel h k
theorem cut_rel {φ : Emb} {S : St} {w : World} (h : Rel W φ S w) (hc : Cl S) : Rel W (cut S.c φ) S w := by
  have hN : W.heap.size ≤ S.c := Nat.le_trans h.lockN h.ok.1
  have get : ∀ {i L}, cut S.c φ i = some L → i < S.c ∧ φ i = some L := fun {i L} e => by
    unfold cut at e
    split at e
    · exact ⟨by assumption, e⟩
    · cases e
  refine ⟨h.below, fun i hi => ?_, h.lockN, h.ok, h.deadB, fun i L e hi => ?_, fun i j Li Lj ei ej => h.inj i j Li Lj (get ei).2 (get ej).2⟩
  · unfold cut
    rw [if_pos (by omega)]
    exact h.base i hi
  · obtain ⟨hlt, e⟩ := get e
    obtain ⟨b1, b2, b3⟩ := h.blk i L e hi
    refine ⟨b1, b2, ?_⟩
    have hcl := hc i hlt
    cases ho : S.heap i with
    | dead => trivial
    | map es clk => rw [ho] at b3; exact b3
    | row cs k =>
      rw [ho] at b3 hcl
      obtain ⟨C, ee, fr, c1, c2, c3, c4, c5, c6⟩ := b3
      refine ⟨C, ee, fr, c1, c2, c3, c4, c5, fun j v hv => ?_⟩
      obtain ⟨v', d1, d2⟩ := c6 j v hv
      exact ⟨v', d1, vlt1_rel (List.all_eq_true.1 (by exact hcl) v (List.mem_of_getElem? hv)) d2⟩
theorem gc_post {φ φ' : Emb} {S S0 : St} {w w' : World} (h : Rel W φ S w) (hc : Cl S) (hl : Low S S0) (p : Post W (cut S.c φ) S w φ' S0 w') : Post W φ S w φ S w' := by
  have hr := cut_rel h hc
  refine ⟨ELe.refl φ, ⟨p.rel.below, h.base, h.lockN, h.ok, h.deadB, fun i L e hi => ?_, h.inj⟩, fun i L e => .inl e, p.size, fun b hb ht => p.f1 b hb fun t => ht ?_, fun b hb t => t⟩
  · obtain ⟨b1, b2, b3⟩ := h.blk i L e hi
    refine ⟨b1, Nat.lt_of_lt_of_le b2 p.size, ?_⟩
    rcases Nat.lt_or_ge i S.c with hlt | hge
    · have ec : cut S.c φ i = some L := by unfold cut; rw [if_pos hlt]; exact e
      obtain ⟨_, _, q3⟩ := p.rel.blk i L (p.ext _ _ ec) hi
      rw [hl.2.2 i hlt] at q3
      obtain ⟨_, _, r3⟩ := hr.blk i L ec hi
      cases ho : S.heap i with
      | dead => trivial
      | map es clk => rw [ho] at q3; exact q3
      | row cs k =>
        rw [ho] at q3 r3
        obtain ⟨C, ee, fr, c1, c2, c3, c4, c5, c6⟩ := q3
        obtain ⟨C0, ee0, fr0, a1, a2, a3, a4, a5, a6⟩ := r3
        refine ⟨C, ee, fr, c1, c2, c3, c4, c5, fun j v hv => ?_⟩
        obtain ⟨v', d1, d2⟩ := c6 j v hv
        obtain ⟨v0, _, d4⟩ := a6 j v hv
        exact ⟨v', d1, (VRel.back p.ext d4 d2).mono (cut_le _ _)⟩
    · rw [h.ok.2 i hge]; trivial
  · obtain ⟨i, L, e, r⟩ := t
    exact ⟨i, L, cut_le _ _ _ _ e, r⟩
theorem flatR_eq {N : Nat} {φ φ' : Emb} {v v' : Value} (h : flatR v = true) (k : VRel N φ v v') : VRel N φ' v v' := by
  cases v with
  | tuple cs =>
    cases k with
    | tuple hs hp =>
      refine .tuple hs fun i a b => ?_
      have hf : flat cs[i] = true := all_get (p := flat) (by exact h) i a
      rw [flat_eq hf (hp i a b)]
      exact flat_refl hf
  | _ => rw [flat_eq (by exact h) k]; exact flat_refl (by exact h)
theorem gcB_spec {on : Bool} {args : Array Value} {S : St} {r : Option (Value × St)} {v : Value} {S' : St} (e : gcB on args S r = some (v, S')) :
    r = some (v, S') ∨ ∃ S0, r = some (v, S0) ∧ S' = S ∧ flatR v = true ∧ Low S S0 ∧ Cl S ∧ args.all (vlt S.c) = true := by
  unfold gcB at e
  split at e
  · unfold gcR at e
    split at e
    · rename_i v0 S0
      split at e
      · rename_i hc
        cases e
        exact .inr ⟨S0, rfl, rfl, hc⟩
      · exact .inl e
    · cases e
  · exact .inl e
theorem callN_sound {G : FuncId → Bool} (hG : P.globals.size ≤ W.heap.size) (hm : P.follows .mixedOrders = true) : ∀ k, CallerA (callN P W G k) ∧ CallerOk P W (callN P W G k)
  | 0 => ⟨fun f args S v S' ok e => (by cases e), fun f args S v S' e => (by cases e)⟩
  | k + 1 => by
    obtain ⟨hA, hC⟩ := callN_sound hG hm k
    have bodyA : ∀ f args S v S', Ok S → bodyC P W (callN P W G k) (fun b => loopN b k) f args S = some (v, S') → AStep S S' := by
      intro f args S v S' ok e
      simp only [bodyC] at e
      split at e
      · split at e
        · obtain ⟨ex, A, l, h1, _, _, _⟩ := finish_spec e
          exact code_astep hA k _ _ _ _ _ _ ok h1
        · cases e
      · cases e
    have bodyOk : ∀ f args S v S', bodyC P W (callN P W G k) (fun b => loopN b k) f args S = some (v, S') → ∀ (φ : Emb) (w : World) args', Rel W φ S w → RRel W.heap.size φ args args' → Free φ S.c S'.c →
        Calls P f args' w fun e w' => ∃ φ' v', e = .returned v' ∧ VRel W.heap.size φ' v v' ∧ Post W φ S w φ' S' w' := by
      intro f args S v S' e φ w args' h hargs hf
      simp only [bodyC] at e
      split at e
      · rename_i fn hfn
        split at e
        · rename_i c hc
          obtain ⟨ex, A, l, h1, hex, hl, rfl⟩ := finish_spec e
          refine calls_of_wp hfn hc ?_
          refine code_sound hA hC hG hm k c _ _ _ _ _ _ h1 φ _ w h ⟨?_, rfl⟩ hf fun φ' a' w' ha' hp => ?_
          · refine RRel.append hargs ?_
            rw [hargs.size]
            refine ⟨rfl, fun i v hv => ⟨v, hv, ?_⟩⟩
            rw [Array.getElem?_toList, Array.getElem?_replicate] at hv
            split at hv
            · cases hv; exact undef_rel
            · cases hv
          · obtain ⟨v', r1, r2⟩ := finish_run hp.rel ha'.1 hl
            have hd : a'.defers = [] := by rw [← ha'.2]; exact code_defers k c _ _ _ _ _ h1
            rcases hex with rfl | rfl
            · exact ⟨hd, v', r1, φ', v', rfl, r2, hp⟩
            · exact ⟨hd, v', r1, φ', v', rfl, r2, hp⟩
        · cases e
      · cases e
    refine ⟨fun f args S v S' ok e => ?_, fun f args S v S' e φ w args' h hargs hf => ?_⟩
    · rcases gcB_spec e with e | ⟨S0, e, rfl, _⟩
      · exact bodyA f args S v S' ok e
      · exact AStep.refl _
    · rcases gcB_spec e with e | ⟨S0, e, rfl, h1, h2, h3, h4⟩
      · exact bodyOk f args S v S' e φ w args' h hargs hf
      · refine (bodyOk f args _ v S0 e _ w args' (cut_rel h h3) (RRel.of_pt hargs.size fun i a b => vlt_rel (all_get h4 i a) (hargs.pt i a b)) fun i a b => ?_).mono ?_
        · unfold cut; rw [if_neg (by omega)]
        · rintro en w' ⟨φ', v', rfl, hv, hp⟩
          exact ⟨φ, v', rfl, flatR_eq h1 hv, gc_post h h3 h2 hp⟩
end
end Go.Proofs.Yteofdikfdknpbaa.E
end
section
namespace Go.Proofs.Yteofdikfdknpbaa.E
open Go Go.RowKit
set_option linter.unusedVariables false
noncomputable def lim {α : Type} (s : Nat → Option α) : Option α :=
  @dite _ (∃ r k, s k = some r) (Classical.propDecidable _) (fun h => some (Classical.choose h)) (fun _ => none)
def Mono {α : Type} (s : Nat → Option α) : Prop := ∀ k r, s k = some r → s (k + 1) = some r
theorem Mono.le {α : Type} {s : Nat → Option α} (h : Mono s) {k j : Nat} (hkj : k ≤ j) {r : α} (e : s k = some r) : s j = some r := by
  induction j with
  | zero => have : k = 0 := by omega
            subst this; exact e
  | succ j ih =>
    by_cases hk : k = j + 1
    · subst hk; exact e
    · exact h _ _ (ih (by omega))
theorem lim_iff {α : Type} {s : Nat → Option α} (h : Mono s) {r : α} : lim s = some r ↔ ∃ k, s k = some r := by
  unfold lim
  constructor
  · intro e
    split at e
    · rename_i hx
      cases e
      exact Classical.choose_spec hx
    · cases e
  · rintro ⟨k, hk⟩
    have hx : ∃ r k, s k = some r := ⟨r, k, hk⟩
    rw [dif_pos hx]
    obtain ⟨j, hj⟩ := Classical.choose_spec hx
    have a := h.le (Nat.le_max_left k j) hk
    have b := h.le (Nat.le_max_right k j) hj
    rw [a] at b
    exact b.symm
theorem opt_ext {α : Type} {x y : Option α} (h : ∀ r, x = some r ↔ y = some r) : x = y := by
  cases x with
  | none =>
    cases y with
    | none => rfl
    | some b => have := (h b).2 rfl; cases this
  | some a => exact ((h a).1 rfl).symm
def CLe (C C' : Caller) : Prop := ∀ f args S r, C f args S = some r → C' f args S = some r
def BLe (b b' : Act → St → Out) : Prop := ∀ A S r, b A S = some r → b' A S = some r
def LLe (L L' : Looper) : Prop := ∀ b b', BLe b b' → BLe (L b) (L' b')
section
variable {P : Program} {W : World} {G : FuncId → Bool}
theorem opStep_le {C C' : Caller} (h : CLe C C') {ρ : Operand → Value} {o : Oper} {S : St} {r : Value × St} (e : opStep P W C ρ o S = some r) : opStep P W C' ρ o S = some r := by
  obtain ⟨dst, op, ty, pos, after, guard⟩ := o
  cases op <;> first | exact e | skip
  rename_i c
  obtain ⟨cal, args, ts⟩ := c
  cases cal with
  | value f =>
    simp only [opStep] at e ⊢
    unfold aCall at e ⊢
    split at e
    · split at e
      · rename_i hg; rw [if_pos hg]; exact h _ _ _ _ e
      · cases e
    · cases e
  | _ => exact e
theorem stepC_le {C C' : Caller} (h : CLe C C') {ops : Array Oper} {x : Oper × Bool} {r q : Act × St} (e : stepC P W C ops x r = some q) : stepC P W C' ops x r = some q := by
  unfold stepC at e ⊢
  split at e
  · cases e
  · rename_i hg
    rw [if_neg hg]
    split at e
    · rename_i hw
      rw [if_pos hw]
      split at e
      · rename_i v S' h1
        have : (if x.2 then unlock r.2.lock (opStep P W C' r.1.eval x.1 (r.2.relock r.2.c)) else opStep P W C' r.1.eval x.1 r.2) = some (v, S') := by
          by_cases hq : x.2 = true
          · rw [if_pos hq] at h1 ⊢
            obtain ⟨S2, h2, rfl⟩ := unlock_spec h1
            rw [opStep_le h h2]; rfl
          · rw [if_neg hq] at h1 ⊢
            exact opStep_le h h1
        rw [this]
        exact e
      · cases e
    · rename_i hw
      rw [if_neg hw]; exact e
theorem opsC_le {C C' : Caller} (h : CLe C C') {ops : Array Oper} : ∀ {l : List (Oper × Bool)} {A : Act} {S : St} {q : Act × St}, opsC P W C ops l A S = some q → opsC P W C' ops l A S = some q
  | [], A, S, q, e => e
  | x :: l, A, S, q, e => by
    rw [opsC_cons] at e ⊢
    cases h1 : stepC P W C ops x (A, S) with
    | none => rw [h1] at e; cases e
    | some r => rw [h1] at e; rw [stepC_le h h1]; exact opsC_le h e
theorem opsL_le {C C' : Caller} (h : CLe C C') {ops : Array Oper} : ∀ {l : List (Oper × Bool)} {k : Nat} {H : List (Nat × St)} {A : Act} {S : St} {q : Act × St}, opsL P W C ops l k H A S = some q → opsL P W C' ops l k H A S = some q
  | [], k, H, A, S, q, e => e
  | x :: l, k, H, A, S, q, e => by
    simp only [opsL] at e ⊢
    cases h1 : stepC P W C ops x (A, S) with
    | none => rw [h1] at e; cases e
    | some r =>
      rw [h1] at e
      rw [stepC_le h h1]
      dsimp only at e ⊢
      split at e
      · rename_i hc; rw [if_pos hc]; exact opsL_le h e
      · cases e
theorem regC_le {C C' : Caller} (h : CLe C C') {ops : Array Oper} {draw : Bool} {A : Act} {S : St} {q : Act × St} (e : regC P W C ops draw A S = some q) : regC P W C' ops draw A S = some q := by
  unfold regC at e ⊢
  split at e
  · rename_i hc
    rw [if_pos hc]
    split at e
    · rename_i h2; rw [if_pos h2]; exact opsL_le h e
    · rename_i h2; rw [if_neg h2]; exact opsC_le h e
  · cases e
theorem clrOut_le {ts : List Tmp} {f g : Act → St → Out} (h : BLe f g) : BLe (fun A S => clrOut ts (f A S)) (fun A S => clrOut ts (g A S)) := by
  intro A S r e
  cases hf : f A S with
  | none => simp only [hf] at e; cases e
  | some x => simp only [hf] at e; simp only [h _ _ _ hf]; exact e
theorem codeC_le {C C' : Caller} {L L' : Looper} (h : CLe C C') (hL : LLe L L') : ∀ c : Code, BLe (codeC P W C L c) (codeC P W C' L' c) := by
  intro c
  induction c with
  | region id ops draw =>
    intro A S r e
    simp only [codeC] at e ⊢
    split at e
    · rename_i h1; rw [regC_le h h1]; exact e
    · cases e
  | seq a b iha ihb =>
    intro A S r e
    simp only [codeC] at e ⊢
    cases h1 : codeC P W C L a A S with
    | none => rw [h1] at e; cases e
    | some x =>
      rw [h1] at e
      rw [iha _ _ _ h1]
      obtain ⟨ex, A1, S1⟩ := x
      cases ex <;> first | exact ihb _ _ _ e | exact e
  | cond c a b iha ihb =>
    intro A S r e
    simp only [codeC] at e ⊢
    split at e
    · exact iha _ _ _ e
    · exact ihb _ _ _ e
    · cases e
  | block id a iha =>
    intro A S r e
    simp only [codeC] at e ⊢
    cases h1 : codeC P W C L a A S with
    | none => rw [h1] at e; cases e
    | some x => rw [h1] at e; rw [iha _ _ _ h1]; exact e
  | loop a iha =>
    intro A S r e
    simp only [codeC] at e ⊢
    exact hL _ _ (clrOut_le iha) _ _ _ e
  | scope a iha =>
    intro A S r e
    simp only [codeC] at e ⊢
    cases h1 : codeC P W C L a A S with
    | none => rw [h1] at e; cases e
    | some x => rw [h1] at e; rw [iha _ _ _ h1]; exact e
  | _ => intro A S r e; exact e
theorem loopN_le {n n' : Nat} (hn : n ≤ n') : LLe (fun b => loopN b n) (fun b => loopN b n') := by
  intro b b' hb
  induction n generalizing n' with
  | zero => intro A S r e; cases e
  | succ n ih =>
    obtain ⟨m, rfl⟩ : ∃ m, n' = m + 1 := ⟨n' - 1, by omega⟩
    intro A S r e
    simp only [loopN] at e ⊢
    cases h1 : b A S with
    | none => rw [h1] at e; cases e
    | some x =>
      rw [h1] at e
      rw [hb _ _ _ h1]
      obtain ⟨ex, A1, S1⟩ := x
      cases ex <;> first | exact ih (by omega : n ≤ m) _ _ _ e | exact e
theorem ble_refl (b : Act → St → Out) : BLe b b := fun _ _ _ e => e
theorem bodyC_le {C C' : Caller} {L L' : Looper} (h : CLe C C') (hL : LLe L L') : CLe (bodyC P W C L) (bodyC P W C' L') := by
  intro f args S r e
  unfold bodyC at e ⊢
  split at e
  · rename_i fn hfn
    try rw [hfn]
    try dsimp only
    split at e
    · rename_i c hc
      try rw [hc]
      try dsimp only
      cases h1 : codeC P W C L c { tmps := args ++ Array.replicate (fn.ntmps - args.size) undef, defers := [] } S with
      | none => rw [h1] at e; cases e
      | some x => rw [h1] at e; rw [codeC_le h hL _ _ _ _ h1]; exact e
    · cases e
  · cases e
theorem gcB_le {on : Bool} {args : Array Value} {S : St} {x y : Option (Value × St)} (h : ∀ r, x = some r → y = some r) {r : Value × St} (e : gcB on args S x = some r) : gcB on args S y = some r := by
  cases x with
  | none => cases on <;> cases e
  | some z => rw [h z rfl]; exact e
theorem callN_mono (k : Nat) : CLe (callN P W G k) (callN P W G (k + 1)) := by
  induction k with
  | zero => intro f args S r e; cases e
  | succ k ih =>
    intro f args S r e
    exact gcB_le (fun r e => bodyC_le ih (loopN_le (Nat.le_succ k)) f args S r e) e
variable (P W G)
noncomputable def callW : Caller := fun f args S => lim fun k => callN P W G k f args S
variable {P W G}
noncomputable def loopW : Looper := fun b A S => lim fun n => loopN b n A S
theorem callW_iff {f : FuncId} {args : Array Value} {S : St} {r : Value × St} : callW P W G f args S = some r ↔ ∃ k, callN P W G k f args S = some r := lim_iff fun k r e => callN_mono k f args S r e
theorem loopW_iff {b : Act → St → Out} {A : Act} {S : St} {r : Exit × Act × St} : loopW b A S = some r ↔ ∃ n, loopN b n A S = some r := lim_iff fun n r e => loopN_le (Nat.le_succ n) b b (ble_refl b) A S r e
theorem callN_W (k : Nat) : CLe (callN P W G k) (callW P W G) := fun f args S r e => callW_iff.2 ⟨k, e⟩
theorem callN_le {k j : Nat} (h : k ≤ j) : CLe (callN P W G k) (callN P W G j) := fun f args S r e => Mono.le (s := fun k => callN P W G k f args S) (fun k r e => callN_mono k f args S r e) h e
theorem loopN_W (n : Nat) : LLe (fun b => loopN b n) loopW := fun b b' hb A S r e => loopW_iff.2 ⟨n, loopN_le (Nat.le_refl n) b b' hb A S r e⟩
theorem step_ev {ops : Array Oper} {x : Oper × Bool} {r q : Act × St} (e : stepC P W (callW P W G) ops x r = some q) : ∃ k, stepC P W (callN P W G k) ops x r = some q := by
  obtain ⟨⟨dst, op, ty, pos, after, guard⟩, fl⟩ := x
  by_cases hc : ∃ c f, op = .call c ∧ c.callee = .value f
  · obtain ⟨⟨cal, args, ts⟩, f, rfl, hcal⟩ := hc
    dsimp only at hcal
    subst hcal
    have op_ev : ∀ (ρ : Operand → Value) (S : St) (y : Value × St), opStep P W (callW P W G) ρ { dst, op := .call { callee := .value f, args, argTypes := ts }, type := ty, pos, after, guard } S = some y → ∃ k, opStep P W (callN P W G k) ρ { dst, op := .call { callee := .value f, args, argTypes := ts }, type := ty, pos, after, guard } S = some y := by
      intro ρ S y h
      simp only [opStep] at h ⊢
      unfold aCall at h ⊢
      split at h
      · split at h
        · rename_i hg
          obtain ⟨k, hk⟩ := callW_iff.1 h
          exact ⟨k, by rw [if_pos hg]; exact hk⟩
        · cases h
      · cases h
    unfold stepC at e ⊢
    dsimp only at e ⊢
    split at e
    · cases e
    rename_i hg
    split at e
    · rename_i hw
      split at e
      · rename_i v S' h1
        have : ∃ k, (if fl then unlock r.2.lock (opStep P W (callN P W G k) r.1.eval { dst, op := .call { callee := .value f, args, argTypes := ts }, type := ty, pos, after, guard } (r.2.relock r.2.c)) else opStep P W (callN P W G k) r.1.eval { dst, op := .call { callee := .value f, args, argTypes := ts }, type := ty, pos, after, guard } r.2) = some (v, S') := by
          by_cases hq : fl = true
          · rw [if_pos hq] at h1
            obtain ⟨S2, h2, rfl⟩ := unlock_spec h1
            obtain ⟨k, hk⟩ := op_ev _ _ _ h2
            exact ⟨k, by rw [if_pos hq, hk]; rfl⟩
          · rw [if_neg hq] at h1
            obtain ⟨k, hk⟩ := op_ev _ _ _ h1
            exact ⟨k, by rw [if_neg hq]; exact hk⟩
        obtain ⟨k, hk⟩ := this
        exact ⟨k, by rw [if_neg hg, if_pos hw, hk]; exact e⟩
      · cases e
    · rename_i hw
      exact ⟨0, by rw [if_neg hg, if_neg hw]; exact e⟩
  · refine ⟨0, ?_⟩
    have same : ∀ (ρ : Operand → Value) (S : St), opStep P W (callW P W G) ρ { dst, op, type := ty, pos, after, guard } S = opStep P W (callN P W G 0) ρ { dst, op, type := ty, pos, after, guard } S := by
      intro ρ S
      cases op <;> first | rfl | skip
      rename_i c
      obtain ⟨cal, args, ts⟩ := c
      cases cal with
      | value f => exact (hc ⟨_, f, rfl, rfl⟩).elim
      | _ => rfl
    unfold stepC at e ⊢
    simp only [same] at e
    exact e
theorem ops_ev {ops : Array Oper} : ∀ {l : List (Oper × Bool)} {A : Act} {S : St} {q : Act × St}, opsC P W (callW P W G) ops l A S = some q → ∃ k, opsC P W (callN P W G k) ops l A S = some q
  | [], A, S, q, e => ⟨0, e⟩
  | x :: l, A, S, q, e => by
    rw [opsC_cons] at e
    cases h1 : stepC P W (callW P W G) ops x (A, S) with
    | none => rw [h1] at e; cases e
    | some r =>
      rw [h1] at e
      obtain ⟨k1, e1⟩ := step_ev h1
      obtain ⟨k2, e2⟩ := ops_ev e
      refine ⟨max k1 k2, ?_⟩
      rw [opsC_cons, stepC_le (callN_le (Nat.le_max_left k1 k2)) e1]
      exact opsC_le (callN_le (Nat.le_max_right k1 k2)) e2
theorem opsL_ev {ops : Array Oper} : ∀ {l : List (Oper × Bool)} {n : Nat} {H : List (Nat × St)} {A : Act} {S : St} {q : Act × St}, opsL P W (callW P W G) ops l n H A S = some q → ∃ k, opsL P W (callN P W G k) ops l n H A S = some q
  | [], n, H, A, S, q, e => ⟨0, e⟩
  | x :: l, n, H, A, S, q, e => by
    simp only [opsL] at e
    cases h1 : stepC P W (callW P W G) ops x (A, S) with
    | none => rw [h1] at e; cases e
    | some r =>
      rw [h1] at e
      dsimp only at e
      split at e
      · rename_i hc
        obtain ⟨k1, e1⟩ := step_ev h1
        obtain ⟨k2, e2⟩ := opsL_ev e
        refine ⟨max k1 k2, ?_⟩
        simp only [opsL]
        rw [stepC_le (callN_le (Nat.le_max_left k1 k2)) e1]
        dsimp only
        rw [if_pos hc]
        exact opsL_le (callN_le (Nat.le_max_right k1 k2)) e2
      · cases e
noncomputable def Kode (P : Program) (W : World) (G : FuncId → Bool) (k : Nat) (c : Code) : Act → St → Out := codeC P W (callN P W G k) (fun b => loopN b k) c
theorem kode_le {k j : Nat} (h : k ≤ j) (c : Code) : BLe (Kode P W G k c) (Kode P W G j c) := codeC_le (callN_le h) (loopN_le h) c
theorem code_ev : ∀ (c : Code) (A : Act) (S : St) (r : Exit × Act × St), codeC P W (callW P W G) loopW c A S = some r → ∃ k, Kode P W G k c A S = some r := by
  intro c
  induction c with
  | region id ops draw =>
    intro A S r e
    simp only [codeC] at e
    split at e
    · rename_i h1
      unfold regC at h1
      split at h1
      · rename_i hc
        split at h1
        · rename_i h2
          obtain ⟨k, hk⟩ := opsL_ev h1
          refine ⟨k, ?_⟩
          simp only [Kode, codeC]
          unfold regC
          rw [if_pos hc, if_pos h2, hk]
          exact e
        · rename_i h2
          obtain ⟨k, hk⟩ := ops_ev h1
          refine ⟨k, ?_⟩
          simp only [Kode, codeC]
          unfold regC
          rw [if_pos hc, if_neg h2, hk]
          exact e
      · cases h1
    · cases e
  | seq a b iha ihb =>
    intro A S r e
    simp only [codeC] at e
    cases h1 : codeC P W (callW P W G) loopW a A S with
    | none => rw [h1] at e; cases e
    | some x =>
      rw [h1] at e
      obtain ⟨k1, e1⟩ := iha _ _ _ h1
      obtain ⟨ex, A1, S1⟩ := x
      by_cases hex : ex = .normal
      · subst hex
        obtain ⟨k2, e2⟩ := ihb _ _ _ e
        refine ⟨max k1 k2, ?_⟩
        have a1 := kode_le (Nat.le_max_left k1 k2) a _ _ _ e1
        have a2 := kode_le (Nat.le_max_right k1 k2) b _ _ _ e2
        simp only [Kode, codeC] at a1 a2 ⊢
        rw [a1]
        exact a2
      · refine ⟨k1, ?_⟩
        simp only [Kode, codeC] at e1 ⊢
        rw [e1]
        cases ex <;> first | exact (hex rfl).elim | exact e
  | cond c a b iha ihb =>
    intro A S r e
    simp only [codeC] at e
    split at e
    · rename_i hc
      obtain ⟨k, hk⟩ := iha _ _ _ e
      refine ⟨k, ?_⟩
      simp only [Kode, codeC, hc] at hk ⊢
      exact hk
    · rename_i hc
      obtain ⟨k, hk⟩ := ihb _ _ _ e
      refine ⟨k, ?_⟩
      simp only [Kode, codeC, hc] at hk ⊢
      exact hk
    · cases e
  | block id a iha =>
    intro A S r e
    simp only [codeC] at e
    cases h1 : codeC P W (callW P W G) loopW a A S with
    | none => rw [h1] at e; cases e
    | some x =>
      rw [h1] at e
      obtain ⟨k, hk⟩ := iha _ _ _ h1
      refine ⟨k, ?_⟩
      simp only [Kode, codeC] at hk ⊢
      rw [hk]
      exact e
  | loop a iha =>
    intro A S r e
    simp only [codeC] at e
    obtain ⟨n, hn⟩ := loopW_iff.1 e
    have : ∀ (n : Nat) (A : Act) (S : St) (r : Exit × Act × St), loopN (fun A S => clrOut (deadIn a) (codeC P W (callW P W G) loopW a A S)) n A S = some r → ∃ k, loopN (fun A S => clrOut (deadIn a) (Kode P W G k a A S)) n A S = some r := by
      intro n
      induction n with
      | zero => intro A S r e; cases e
      | succ n ih =>
        intro A S r e
        simp only [loopN] at e
        cases h1 : codeC P W (callW P W G) loopW a A S with
        | none => rw [h1] at e; cases e
        | some x =>
          rw [h1] at e
          obtain ⟨k1, e1⟩ := iha _ _ _ h1
          obtain ⟨ex, A1, S1⟩ := x
          by_cases hex : ex = .normal
          · subst hex
            obtain ⟨k2, e2⟩ := ih _ _ _ e
            refine ⟨max k1 k2, ?_⟩
            have a1 := kode_le (Nat.le_max_left k1 k2) a _ _ _ e1
            have a2 := loopN_le (Nat.le_refl n) _ _ (clrOut_le (ts := deadIn a) (kode_le (Nat.le_max_right k1 k2) a)) _ _ _ e2
            simp only [loopN]
            rw [a1]
            exact a2
          · refine ⟨k1, ?_⟩
            simp only [loopN]
            rw [e1]
            cases ex <;> first | exact (hex rfl).elim | exact e
    obtain ⟨k, hk⟩ := this n _ _ _ hn
    refine ⟨max k n, ?_⟩
    have a1 := loopN_le (Nat.le_max_right k n) _ _ (clrOut_le (ts := deadIn a) (kode_le (Nat.le_max_left k n) a)) _ _ _ hk
    exact a1
  | scope a iha =>
    intro A S r e
    simp only [codeC] at e
    cases h1 : codeC P W (callW P W G) loopW a A S with
    | none => rw [h1] at e; cases e
    | some x =>
      rw [h1] at e
      obtain ⟨k, hk⟩ := iha _ _ _ h1
      refine ⟨k, ?_⟩
      simp only [Kode, codeC] at hk ⊢
      rw [hk]
      exact e
  | _ => intro A S r e; exact ⟨0, e⟩
theorem callW_eq (f : FuncId) (args : Array Value) (S : St) : callW P W G f args S = gcB (G f) args S (bodyC P W (callW P W G) loopW f args S) := by
  refine opt_ext fun r => ⟨fun e => ?_, fun e => ?_⟩
  · obtain ⟨k, hk⟩ := callW_iff.1 e
    cases k with
    | zero => cases hk
    | succ k => exact gcB_le (fun r e => bodyC_le (callN_W k) (loopN_W k) f args S r e) hk
  · suffices raw : ∀ r, bodyC P W (callW P W G) loopW f args S = some r → ∃ k, bodyC P W (callN P W G k) (fun b => loopN b k) f args S = some r by
      cases hb : bodyC P W (callW P W G) loopW f args S with
      | none => rw [hb] at e; generalize G f = o at e; cases o <;> cases e
      | some z =>
        obtain ⟨k, hk⟩ := raw z hb
        refine callW_iff.2 ⟨k + 1, ?_⟩
        rw [hb] at e
        simp only [callN]
        rw [hk]
        exact e
    clear e
    intro r e
    unfold bodyC at e
    split at e
    · rename_i fn hfn
      split at e
      · rename_i c hc
        cases h1 : codeC P W (callW P W G) loopW c { tmps := args ++ Array.replicate (fn.ntmps - args.size) undef, defers := [] } S with
        | none => rw [h1] at e; cases e
        | some x =>
          obtain ⟨k, hk⟩ := code_ev _ _ _ _ h1
          refine ⟨k, ?_⟩
          simp only [bodyC, hfn, hc]
          simp only [Kode] at hk
          rw [hk, ← h1]
          exact e
      · cases e
    · cases e
theorem loopW_eq (b : Act → St → Out) (A : Act) (S : St) : loopW b A S = match b A S with | some (.normal, A', S') => loopW b A' S' | r => r := by
  refine opt_ext fun r => ⟨fun e => ?_, fun e => ?_⟩
  · obtain ⟨n, hn⟩ := loopW_iff.1 e
    cases n with
    | zero => cases hn
    | succ n =>
      simp only [loopN] at hn
      split at hn
      · rename_i A1 S1 h1
        try rw [h1]
        exact loopW_iff.2 ⟨n, hn⟩
      · rename_i hne
        rw [hn]
        obtain ⟨ex, A1, S1⟩ := r
        cases ex <;> first | rfl | exact (hne _ _ hn).elim
  · split at e
    · rename_i A1 S1 h1
      obtain ⟨n, hn⟩ := loopW_iff.1 e
      exact loopW_iff.2 ⟨n + 1, by simp only [loopN, h1]; exact hn⟩
    · rename_i hne
      refine loopW_iff.2 ⟨1, ?_⟩
      simp only [loopN]
      exact e
variable (W) in
def St.start : St := { heap := fun _ => .dead, c := W.heap.size, lock := W.heap.size }
variable (W) in
def oldArg : Value → Bool
  | .agg cs => cs.all (oldV W)
  | v => oldV W v
variable (W) in
def emb0 : Emb := fun i => if i < W.heap.size then some ⟨i, 0, 0, 0⟩ else none
theorem rel0 : Rel W (emb0 W) (St.start W) W := by
  refine ⟨Below.refl _ _, fun i hi => if_pos hi, Nat.le_refl _, ⟨Nat.le_refl _, fun _ _ => rfl⟩, fun _ _ => rfl, fun i L e hi => ?_, fun i j Li Lj ei ej hi hj hne => ?_⟩
  · unfold emb0 at e; rw [if_neg (by omega)] at e; cases e
  · unfold emb0 at ei; rw [if_neg (by omega)] at ei; cases ei
theorem oldArg_rel {v : Value} (h : oldArg W v = true) : VRel W.heap.size (emb0 W) v v := by
  cases v with
  | agg cs =>
    simp only [oldArg, Array.all_eq_true_iff_forall_mem] at h
    exact .agg rfl fun i h1 h2 => oldV_rel rel0 (h _ (Array.getElem_mem h1))
  | _ => exact oldV_rel rel0 h
theorem calls_of_W (hG : P.globals.size ≤ W.heap.size) (hm : P.follows .mixedOrders = true) {f : FuncId} {args : Array Value} {b : Bool} {S' : St} (hargs : ∀ v ∈ args, oldArg W v = true)
    (e : callW P W G f args (St.start W) = some (.bool b, S')) : Calls P f args W fun e W' => e = .returned (.bool b) ∧ Below W.heap.size W W' := by
  obtain ⟨k, hk⟩ := callW_iff.1 e
  refine ((callN_sound hG hm k).2 f args _ _ _ hk (emb0 W) W args rel0 (RRel.of_pt rfl fun i h1 h2 => oldArg_rel (hargs _ (Array.getElem_mem h1))) fun i h1 h2 => ?_).mono ?_
  · have h1 : W.heap.size ≤ i := h1
    unfold emb0; rw [if_neg (by omega)]
  · rintro en W' ⟨φ', v', rfl, hv, hp⟩
    cases hv
    exact ⟨rfl, hp.rel.below⟩
variable (W) in
def St.start1 : St := { heap := fun _ => .dead, c := W.heap.size + 1, lock := W.heap.size }
theorem rel1 : Rel W (emb0 W) (St.start1 W) W := by
  refine ⟨Below.refl _ _, fun i hi => if_pos hi, Nat.le_refl _, ⟨Nat.le_succ _, fun _ _ => rfl⟩, fun _ _ => rfl, fun i L e hi => ?_, fun i j Li Lj ei ej hi hj hne => ?_⟩
  · unfold emb0 at e; rw [if_neg (by omega)] at e; cases e
  · unfold emb0 at ei; rw [if_neg (by omega)] at ei; cases ei
theorem calls_of_W1 (hG : P.globals.size ≤ W.heap.size) (hm : P.follows .mixedOrders = true) {f : FuncId} {args : Array Value} {b : Bool} {S' : St} (hargs : ∀ v ∈ args, oldArg W v = true)
    (e : callW P W G f args (St.start1 W) = some (.bool b, S')) : Calls P f args W fun e W' => e = .returned (.bool b) ∧ Below W.heap.size W W' := by
  obtain ⟨k, hk⟩ := callW_iff.1 e
  refine ((callN_sound hG hm k).2 f args _ _ _ hk (emb0 W) W args rel1 (RRel.of_pt rfl fun i h1 h2 => oldArg_rel (hargs _ (Array.getElem_mem h1))) fun i h1 h2 => ?_).mono ?_
  · have h1 : W.heap.size + 1 ≤ i := h1
    unfold emb0; rw [if_neg (by omega)]
  · rintro en W' ⟨φ', v', rfl, hv, hp⟩
    cases hv
    exact ⟨rfl, hp.rel.below⟩
end
end Go.Proofs.Yteofdikfdknpbaa.E
end
section
namespace Go.Proofs.Yteofdikfdknpbaa.E
open Go Go.RowKit
set_option linter.unusedVariables false
section
variable {β : Type}
def bindV (x : Option Value) (k : Value → Option β) : Option β := match x with | some v => k v | none => none
def bindS (x : Option (Value × St)) (k : Value → St → Option β) : Option β := match x with | some (v, S) => k v S | none => none
def bindT (x : Option St) (k : St → Option β) : Option β := match x with | some S => k S | none => none
def bindO (x : Out) (k : Exit → Act → St → Option β) : Option β := match x with | some (e, A, S) => k e A S | none => none
def condK (v : Value) (t e : Option β) : Option β := match v with | .bool true => t | .bool false => e | _ => none
def gV (v : Value) (want : Bool) (k : Bool → Option β) : Option β := match v with | .chan _ => none | .bool b => k (b == want) | _ => k false
def wV (g : Bool) (v : Value) : Value := match g with | true => v | false => undef
def wO (g : Bool) (x : Option Value) : Option Value := match g with | true => x | false => some undef
def wS (g : Bool) (S : St) (x : Option (Value × St)) : Option (Value × St) := match g with | true => x | false => some (undef, S)
def wT (g : Bool) (S : St) (x : Option St) : Option St := match g with | true => x | false => some S
def qS (q : Bool) (S : St) (f : St → Option (Value × St)) : Option (Value × St) := match q with | true => unlock S.lock (f (S.relock S.c)) | false => f S
variable (P : Program) (W : World) (C : Caller) (L : Looper)
def opK (q g : Bool) (ρ : Operand → Value) (o : Oper) (S : St) (K : Value → St → Option β) : Option β :=
  match o.op with
  | .move x | .assign x => K (wV g (ρ x)) S
  | .pick c a b => bindV (wO g (aPick (ρ c) (ρ a) (ρ b))) fun v => K v S
  | .build t parts => bindV (wO g (aBuild P t (parts.map fun (i, x) => (i, ρ x)))) fun v => K v S
  | .load t a => bindV (wO g (aLoad P W S t (ρ a))) fun v => K v S
  | .store t a x => bindT (wT g S (match q with | true => none | false => aStore P S t (ρ a) (ρ x))) fun S' => K undef S'
  | .nilCheck x => bindV (wO g (aNil (ρ x))) fun v => K v S
  | .binOp op t x y _ => bindV (wO g (aBin P op t (ρ x) (ρ y))) fun v => K v S
  | .unOp op _ x => bindV (wO g (aUn P op (ρ x))) fun v => K v S
  | .makeFunc fn first captured => K (wV g (.func fn (first.map ρ) (captured.map ρ))) S
  | .slice t x lo hi mx => bindV (wO g (aSlice P W S t (ρ x) (lo.map ρ) (hi.map ρ) (mx.map ρ))) fun v => K v S
  | .fieldAddr s x f => bindV (wO g (aFieldAddr P s (ρ x) f)) fun v => K v S
  | .field t x f => bindV (wO g (still P (Instr.field t (ρ x) f))) fun v => K v S
  | .indexAddr t x i => bindV (wO g (aIndexAddr P t (ρ x) (ρ i))) fun v => K v S
  | .index t x i => bindV (wO g (still P (Instr.index t (ρ x) (ρ i)))) fun v => K v S
  | .extract t i => bindV (wO g (still P (Instr.extract (ρ t) i))) fun v => K v S
  | .call c =>
    match c.callee with
    | .builtin .len => bindV (wO g (aLen P W S c.argTypes (c.args.map ρ))) fun v => K v S
    | .value f => bindS (wS g S (qS q S fun S => aCall P C S (ρ f) (c.args.map ρ))) K
    | _ => bindS (wS g S (qS q S fun S => opStep P W C ρ o S)) K
  | _ => bindS (wS g S (qS q S fun S => opStep P W C ρ o S)) K
def ifG (o : Oper) (ops : Array Oper) (tmps : Array Value) (k : Bool → Option β) : Option β :=
  match o.guard with
  | none => k true
  | some (j, want) => match ((ops[j]?).bind (·.dst)).bind (tmps[·]?) with | some v => gV v want k | none => k false
def opsK (ops : Array Oper) : List (Oper × Bool) → Act → St → (Act → St → Option β) → Option β
  | [], A, S, K => K A S
  | (o, q) :: rest, A, S, K => ifG o ops A.tmps fun g => opK P W C q g A.eval o S fun v S' => opsK ops rest (A.put o.dst v) S' K
open Classical in
noncomputable def chkP (q : Prop) (k : Option β) : Option β := if q then k else none
noncomputable def chkG (g : Bool) (q : Prop) (k : Option β) : Option β := match g with | true => chkP q k | false => k
noncomputable def backK (ops : Array Oper) (k : Nat) (o : Oper) (g : Bool) (A : Act) (S : St) : List (Nat × St) → Option β → Option β
  | [], K => K
  | x :: H, K => match openL ops x.1 k with | true => chkG g (loadOf P W A.eval o x.2 = loadOf P W A.eval o S) (backK ops k o g A S H K) | false => backK ops k o g A S H K
noncomputable def foreK (ops : Array Oper) (k : Nat) (A : Act) (S S' : St) : List (Oper × Nat) → Option β → Option β
  | [], K => K
  | x :: l, K => match isLoad x.1.op && decide (x.2 < k) && openL ops x.2 k with | true => chkP (loadOf P W A.eval x.1 S' = loadOf P W A.eval x.1 S) (foreK ops k A S S' l K) | false => foreK ops k A S S' l K
noncomputable def opsLK (ops : Array Oper) : List (Oper × Bool) → Nat → List (Nat × St) → Act → St → (Act → St → Option β) → Option β
  | [], _, _, A, S, K => K A S
  | (o, q) :: rest, k, H, A, S, K => ifG o ops A.tmps fun g => opK P W C q g A.eval o S fun v S' =>
    match isLoad o.op with
    | true => backK P W ops k o g A S H (opsLK ops rest (k + 1) H (A.put o.dst v) S' K)
    | false => match loudL ops k with
      | true => foreK P W ops k A S S' ops.toList.zipIdx (opsLK ops rest (k + 1) ((k, S) :: H) (A.put o.dst v) S' K)
      | false => opsLK ops rest (k + 1) H (A.put o.dst v) S' K
def seqK (k : Act → St → Option β) (K : Exit → Act → St → Option β) : Exit → Act → St → Option β := fun e A S => match e with | .normal => k A S | e => K e A S
def blockK (id : Nat) (K : Exit → Act → St → Option β) : Exit → Act → St → Option β := fun e A S => match e with | .exit i => if i = id then K .normal A S else K (.exit i) A S | e => K e A S
def scopeK (K : Exit → Act → St → Option β) : Exit → Act → St → Option β := fun e A S => match e with | .goto _ => none | e => K e A S
noncomputable def loopAt (a : Code) (A : Act) (S : St) : Out := L (fun A S => clrOut (deadIn a) (codeC P W C L a A S)) (clr (deadIn a) A) S
noncomputable def codeK : Code → Act → St → (Exit → Act → St → Option β) → Option β
  | .skip, A, S, K | .label _, A, S, K => K .normal A S
  | .region _ ops draw, A, S, K => match draw && wantsL P ops && freshL ops with
    | true => opsLK P W C ops (flagsL ops) 0 [] A S fun A S => K .normal A S
    | false => opsK P W C ops (flags ops draw) A S fun A S => K .normal A S
  | .seq a b, A, S, K => codeK a A S (seqK (fun A S => codeK b A S K) K)
  | .cond c a b, A, S, K => condK (A.eval c) (codeK a A S K) (codeK b A S K)
  | .block id a, A, S, K => codeK a A S (blockK id K)
  | .loop a, A, S, K => bindO (loopAt P W C L a A S) K
  | .exit id, A, S, K => K (.exit id) A S
  | .scope a, A, S, K => codeK a A S (scopeK K)
  | .ret, A, S, K => K .ret A S
  | _, _, _, _ => none
noncomputable def contK : List Nat → Code → (Exit → Act → St → Option β) → Exit → Act → St → Option β
  | [], _, K => K
  | d :: p, .seq a b, K => if d = 0 then contK p a (seqK (fun A S => codeK P W C L b A S K) K) else contK p b K
  | d :: p, .cond _ a b, K => if d = 0 then contK p a K else contK p b K
  | _ :: p, .block id a, K => contK p a (blockK id K)
  | _ :: p, .scope a, K => contK p a (scopeK K)
  | _ :: p, .loop a, K => contK p a K
  | _, _, K => K
def codeAt : List Nat → Code → Code
  | [], c => c
  | d :: p, .seq a b => if d = 0 then codeAt p a else codeAt p b
  | d :: p, .cond _ a b => if d = 0 then codeAt p a else codeAt p b
  | _ :: p, .block _ a => codeAt p a
  | _ :: p, .scope a => codeAt p a
  | _ :: p, .loop a => codeAt p a
  | _, c => c
def bodyOf (fn : Func) : Code := fn.body.getD .skip
def resK (S : St) (tmps : Array Value) : List ResultVar → (List Value → Option β) → Option β
  | [], k => k []
  | .tmp t :: rs, k => resK S tmps rs fun l => k (tmps.getD t undef :: l)
  | .cell a t :: rs, k => bindV (aLoad P W S t (tmps.getD a undef)) fun v => resK S tmps rs fun l => k (v :: l)
def finK (fn : Func) : Exit → Act → St → Option (Value × St) := fun e A S =>
  match e with
  | .normal | .ret => resK P W S A.tmps fn.results.toList fun l => some (packed l, S)
  | _ => none
noncomputable def roundK (a : Code) : Exit → Act → St → Out := fun e A S => match e with | .normal => loopAt P W C L a A S | e => some (e, A, S)
end
section
variable {P : Program} {W : World} {G : FuncId → Bool} {C : Caller} {L : Looper} {β : Type}
theorem bindS_just (x : Option Value) (S : St) (K : Value → St → Option β) : bindS (justV x S) K = bindV x fun v => K v S := by cases x <;> rfl
theorem unlock_just (x : Option Value) (S : St) : unlock S.lock (justV x (S.relock S.c)) = justV x S := by cases x <;> rfl
theorem opK_eq (q g : Bool) (ρ : Operand → Value) (o : Oper) (S : St) (K : Value → St → Option β) (hq : q = true → (∀ t a x, o.op ≠ .store t a x)) :
    opK P W C q g ρ o S K = bindS (if g = true then (if q = true then unlock S.lock (opStep P W C ρ o (S.relock S.c)) else opStep P W C ρ o S) else some (undef, S)) K := by
  obtain ⟨dst, op, ty, pos, after, guard⟩ := o
  have pv : ∀ (f : St → Option Value), (∀ S l, f (S.relock l) = f S) → (∀ S, opStep P W C ρ { dst, op, type := ty, pos, after, guard } S = justV (f S) S) →
      (bindV (wO g (f S)) fun v => K v S) = bindS (if g = true then (if q = true then unlock S.lock (opStep P W C ρ { dst, op, type := ty, pos, after, guard } (S.relock S.c)) else opStep P W C ρ { dst, op, type := ty, pos, after, guard } S) else some (undef, S)) K := by
    intro f hf hs
    cases g with
    | false => rfl
    | true =>
      rw [if_pos rfl, hs, hs, hf]
      cases q with
      | false => simp only [wO, Bool.false_eq_true, if_false, bindS_just]
      | true => simp only [wO, if_true, unlock_just, bindS_just]
  have mv : ∀ (v : Value), (∀ S, opStep P W C ρ { dst, op, type := ty, pos, after, guard } S = some (v, S)) →
      K (wV g v) S = bindS (if g = true then (if q = true then unlock S.lock (opStep P W C ρ { dst, op, type := ty, pos, after, guard } (S.relock S.c)) else opStep P W C ρ { dst, op, type := ty, pos, after, guard } S) else some (undef, S)) K := by
    intro v hs
    rw [hs, hs]
    cases g <;> cases q <;> rfl
  have sv : bindS (wS g S (qS q S fun S => opStep P W C ρ { dst, op, type := ty, pos, after, guard } S)) K = bindS (if g = true then (if q = true then unlock S.lock (opStep P W C ρ { dst, op, type := ty, pos, after, guard } (S.relock S.c)) else opStep P W C ρ { dst, op, type := ty, pos, after, guard } S) else some (undef, S)) K := by
    cases g <;> cases q <;> rfl
  cases op <;> first | exact sv | exact mv _ (fun _ => rfl) | exact pv (fun S => _) (fun _ _ => rfl) (fun _ => rfl) | skip
  case load t a => exact pv (fun S => aLoad P W S t (ρ a)) (fun _ _ => rfl) (fun _ => rfl)
  case slice t x lo hi mx => exact pv (fun S => aSlice P W S t (ρ x) (lo.map ρ) (hi.map ρ) (mx.map ρ)) (fun _ _ => rfl) (fun _ => rfl)
  case store t a x =>
    cases q with
    | true => exact (hq rfl _ _ _ rfl).elim
    | false =>
      cases g with
      | false => rfl
      | true =>
        simp only [opK, wT, opStep, if_true, Bool.false_eq_true, if_false]
        cases aStore P S t (ρ a) (ρ x) <;> rfl
  case call c =>
    obtain ⟨cal, args, ts⟩ := c
    cases cal with
    | invoke r m => exact sv
    | value f => exact sv
    | builtin b =>
      cases b <;> first | exact sv | exact pv (fun S => aLen P W S ts (args.map ρ)) (fun _ _ => rfl) (fun _ => rfl)
theorem ifG_eq (o : Oper) (ops : Array Oper) (tmps : Array Value) (k : Bool → Option β) : ifG o ops tmps k = if guardOk o ops tmps = false then none else k (Region.wanted o (yielded ops tmps)) := by
  unfold ifG guardOk Region.wanted yielded
  cases hg : o.guard with
  | none => rfl
  | some g =>
    obtain ⟨j, want⟩ := g
    have key : ∀ x : Option Value, (match x with | some v => gV v want k | none => k false) = if (match x with | some v => notJ v | none => true) = false then none else k ((match x with | some (.bool b) => some b | _ => none) == some want) := by
      intro x
      cases x with
      | none => rfl
      | some v => cases v <;> first | rfl | skip
    exact key _
theorem opsK_eq (ops : Array Oper) (K : Act → St → Option β) : ∀ (l : List (Oper × Bool)) (A : Act) (S : St), (∀ x ∈ l, x.2 = true → ∀ t a v, x.1.op ≠ .store t a v) → opsK P W C ops l A S K = (opsC P W C ops l A S).bind fun r => K r.1 r.2
  | [], A, S, h => rfl
  | x :: l, A, S, h => by
    obtain ⟨o, q⟩ := x
    rw [opsC_cons]
    simp only [opsK]
    rw [ifG_eq]
    unfold stepC
    dsimp only
    by_cases hg : guardOk o ops A.tmps = false
    · rw [if_pos hg, if_pos hg]; rfl
    rw [if_neg hg, if_neg hg, opK_eq _ _ _ _ _ _ (fun hq => h (o, q) (by simp) hq)]
    by_cases hw : Region.wanted o (yielded ops A.tmps) = true
    · rw [if_pos hw, if_pos hw]
      cases hr : (if q = true then unlock S.lock (opStep P W C A.eval o (S.relock S.c)) else opStep P W C A.eval o S) with
      | none => rfl
      | some r =>
        obtain ⟨v, S'⟩ := r
        exact opsK_eq ops K l _ _ fun y hy => h y (by simp [hy])
    · rw [if_neg hw, if_neg hw]
      exact opsK_eq ops K l _ _ fun y hy => h y (by simp [hy])
theorem chkP_pos {q : Prop} (h : q) (k : Option β) : chkP q k = k := if_pos h
theorem chkP_neg {q : Prop} (h : ¬ q) (k : Option β) : chkP q k = none := if_neg h
@[simp] theorem chkG_true (q : Prop) (k : Option β) : chkG true q k = chkP q k := rfl
@[simp] theorem chkG_false (q : Prop) (k : Option β) : chkG false q k = k := rfl
@[simp] theorem chkP_self {x : Option Value} (k : Option β) : chkP (x = x) k = k := if_pos rfl
theorem backK_eq (ops : Array Oper) (k : Nat) (o : Oper) (g : Bool) (A : Act) (S : St) (K : Option β) : ∀ H : List (Nat × St), (backK P W ops k o g A S H K = K ∧ (g = true → ∀ x ∈ H, openL ops x.1 k = true → loadOf P W A.eval o x.2 = loadOf P W A.eval o S)) ∨ (backK P W ops k o g A S H K = none ∧ ¬ (g = true → ∀ x ∈ H, openL ops x.1 k = true → loadOf P W A.eval o x.2 = loadOf P W A.eval o S))
  | [] => .inl ⟨rfl, fun _ x hx => by cases hx⟩
  | x :: H => by
    have ih := backK_eq ops k o g A S K H
    simp only [backK]
    cases ho : openL ops x.1 k with
    | false =>
      rcases ih with ⟨h1, h2⟩ | ⟨h1, h2⟩
      · refine .inl ⟨h1, fun hg y hy hoy => ?_⟩
        rcases List.mem_cons.1 hy with rfl | hy
        · rw [ho] at hoy; cases hoy
        · exact h2 hg y hy hoy
      · exact .inr ⟨h1, fun h => h2 fun hg y hy => h hg y (List.mem_cons_of_mem _ hy)⟩
    | true =>
      dsimp only
      cases g with
      | false => 
        rcases ih with ⟨h1, h2⟩ | ⟨h1, h2⟩
        · exact .inl ⟨h1, fun hg => by cases hg⟩
        · exact (h2 fun hg => by cases hg).elim
      | true =>
        rw [chkG_true]
        by_cases hq : loadOf P W A.eval o x.2 = loadOf P W A.eval o S
        · rw [chkP_pos hq]
          rcases ih with ⟨h1, h2⟩ | ⟨h1, h2⟩
          · refine .inl ⟨h1, fun hg y hy hoy => ?_⟩
            rcases List.mem_cons.1 hy with rfl | hy
            · exact hq
            · exact h2 hg y hy hoy
          · exact .inr ⟨h1, fun h => h2 fun hg y hy => h hg y (List.mem_cons_of_mem _ hy)⟩
        · rw [chkP_neg hq]
          exact .inr ⟨rfl, fun h => hq (h rfl x List.mem_cons_self ho)⟩
theorem foreK_eq (ops : Array Oper) (k : Nat) (A : Act) (S S' : St) (K : Option β) : ∀ l : List (Oper × Nat), (foreK P W ops k A S S' l K = K ∧ (∀ x ∈ l, (isLoad x.1.op && decide (x.2 < k) && openL ops x.2 k) = true → loadOf P W A.eval x.1 S' = loadOf P W A.eval x.1 S)) ∨ (foreK P W ops k A S S' l K = none ∧ ¬ (∀ x ∈ l, (isLoad x.1.op && decide (x.2 < k) && openL ops x.2 k) = true → loadOf P W A.eval x.1 S' = loadOf P W A.eval x.1 S))
  | [] => .inl ⟨rfl, fun x hx => by cases hx⟩
  | x :: l => by
    have ih := foreK_eq ops k A S S' K l
    simp only [foreK]
    cases ho : isLoad x.1.op && decide (x.2 < k) && openL ops x.2 k with
    | false =>
      rcases ih with ⟨h1, h2⟩ | ⟨h1, h2⟩
      · refine .inl ⟨h1, fun y hy hoy => ?_⟩
        rcases List.mem_cons.1 hy with rfl | hy
        · rw [ho] at hoy; cases hoy
        · exact h2 y hy hoy
      · exact .inr ⟨h1, fun h => h2 fun y hy => h y (List.mem_cons_of_mem _ hy)⟩
    | true =>
      by_cases hq : loadOf P W A.eval x.1 S' = loadOf P W A.eval x.1 S
      · rw [chkP_pos hq]
        rcases ih with ⟨h1, h2⟩ | ⟨h1, h2⟩
        · refine .inl ⟨h1, fun y hy hoy => ?_⟩
          rcases List.mem_cons.1 hy with rfl | hy
          · exact hq
          · exact h2 y hy hoy
        · exact .inr ⟨h1, fun h => h2 fun y hy => h y (List.mem_cons_of_mem _ hy)⟩
      · rw [chkP_neg hq]
        exact .inr ⟨rfl, fun h => hq (h x List.mem_cons_self ho)⟩
theorem opsLK_eq (ops : Array Oper) (K : Act → St → Option β) : ∀ (l : List (Oper × Bool)) (k : Nat) (H : List (Nat × St)) (A : Act) (S : St), (∀ x ∈ l, x.2 = true → ∀ t a v, x.1.op ≠ .store t a v) → (∀ i x, l[i]? = some x → ops[k + i]? = some x.1) → opsLK P W C ops l k H A S K = (opsL P W C ops l k H A S).bind fun r => K r.1 r.2
  | [], k, H, A, S, h, hl => rfl
  | x :: l, k, H, A, S, h, hl => by
    obtain ⟨o, q⟩ := x
    have hok : ops[k]? = some o := hl 0 (o, q) rfl
    have hl' : ∀ i x, l[i]? = some x → ops[k + 1 + i]? = some x.1 := fun i x hx => by rw [show k + 1 + i = k + (i + 1) by omega]; exact hl (i + 1) x hx
    have ih := fun H A S => opsLK_eq ops K l (k + 1) H A S (fun y hy => h y (by simp [hy])) hl'
    simp only [opsLK, opsL]
    rw [ifG_eq]
    unfold stepC
    dsimp only
    by_cases hg : guardOk o ops A.tmps = false
    · rw [if_pos hg, if_pos hg]; rfl
    rw [if_neg hg, if_neg hg, opK_eq _ _ _ _ _ _ (fun hq => h (o, q) (by simp) hq)]
    -- what the checks say
    have chk : ∀ (v : Value) (S' : St) (inst : Decidable (backL P W ops k o H A S ∧ foreL P W ops k A S S')), (match isLoad o.op with
        | true => backK P W ops k o (Region.wanted o (yielded ops A.tmps)) A S H (opsLK P W C ops l (k + 1) H (A.put o.dst v) S' K)
        | false => match loudL ops k with
          | true => foreK P W ops k A S S' ops.toList.zipIdx (opsLK P W C ops l (k + 1) ((k, S) :: H) (A.put o.dst v) S' K)
          | false => opsLK P W C ops l (k + 1) H (A.put o.dst v) S' K) =
        (@ite _ (backL P W ops k o H A S ∧ foreL P W ops k A S S') inst (opsL P W C ops l (k + 1) (if loudL ops k then (k, S) :: H else H) (A.put o.dst v) S') none).bind fun r => K r.1 r.2 := by
      intro v S' inst
      have hlo : loudL ops k = (!pureOp o.op && !isLoad o.op && inOrderL ops k) := by unfold loudL; rw [hok]
      cases hL : isLoad o.op with
      | true =>
        have hl0 : loudL ops k = false := by rw [hlo, hL]; simp
        have hf : foreL P W ops k A S S' := fun h => by rw [hl0] at h; cases h
        dsimp only
        rcases backK_eq (P := P) (W := W) ops k o (Region.wanted o (yielded ops A.tmps)) A S (opsLK P W C ops l (k + 1) H (A.put o.dst v) S' K) H with ⟨h1, h2⟩ | ⟨h1, h2⟩
        · rw [h1, if_pos ⟨fun _ => h2, hf⟩, hl0, ih]; rfl
        · rw [h1, if_neg fun hb => h2 (hb.1 hL)]; rfl
      | false =>
        have hb : backL P W ops k o H A S := fun h => by rw [hL] at h; cases h
        dsimp only
        cases hlk : loudL ops k with
        | false =>
          have hf : foreL P W ops k A S S' := fun h => by rw [hlk] at h; cases h
          dsimp only
          rw [if_pos ⟨hb, hf⟩, ih]; rfl
        | true =>
          dsimp only
          have hiff : foreL P W ops k A S S' ↔ (∀ x ∈ ops.toList.zipIdx, (isLoad x.1.op && decide (x.2 < k) && openL ops x.2 k) = true → loadOf P W A.eval x.1 S' = loadOf P W A.eval x.1 S) := by
            constructor
            · intro hf x hx hc
              simp only [Bool.and_eq_true, decide_eq_true_eq] at hc
              have := List.mem_zipIdx_iff_getElem?.1 hx
              rw [Array.getElem?_toList] at this
              exact hf hlk x.2 x.1 hc.1.2 this hc.1.1 hc.2
            · intro hf _ j oj hj ho hlj hop
              exact hf (oj, j) (List.mem_zipIdx_iff_getElem?.2 (by rw [Array.getElem?_toList]; exact ho)) (by simp [hlj, hj, hop])
          rcases foreK_eq (P := P) (W := W) ops k A S S' (opsLK P W C ops l (k + 1) ((k, S) :: H) (A.put o.dst v) S' K) ops.toList.zipIdx with ⟨h1, h2⟩ | ⟨h1, h2⟩
          · rw [h1, if_pos ⟨hb, hiff.2 h2⟩, ih]; rfl
          · rw [h1, if_neg fun hb => h2 (hiff.1 hb.2)]; rfl
    by_cases hw : Region.wanted o (yielded ops A.tmps) = true
    · rw [if_pos hw, if_pos hw]
      cases hr : (if q = true then unlock S.lock (opStep P W C A.eval o (S.relock S.c)) else opStep P W C A.eval o S) with
      | none => rfl
      | some r =>
        obtain ⟨v, S'⟩ := r
        exact chk v S' _
    · rw [if_neg hw, if_neg hw]
      exact chk undef S _
def noStore (ops : Array Oper) (draw : Bool) : Bool := (flags ops draw).all fun x => !(x.2 && match x.1.op with | .store .. => true | _ => false)
theorem noStore_spec {ops : Array Oper} {draw : Bool} (h : noStore ops draw = true) : ∀ x ∈ flags ops draw, x.2 = true → ∀ t a v, x.1.op ≠ .store t a v := by
  intro x hx hq t a v e
  unfold noStore at h
  rw [List.all_eq_true] at h
  have := h x hx
  rw [hq, e] at this
  cases this
theorem inOrder_L {ops : Array Oper} {i : Nat} (h : inOrder ops i = true) : inOrderL ops i = true := by
  unfold inOrder at h
  unfold inOrderL
  simp only [List.all_eq_true, Bool.or_eq_true] at h ⊢
  intro x hx
  rcases h x hx with (h | h) | h
  · exact .inl (.inl (.inl h))
  · exact .inl (.inr h)
  · exact .inr h
theorem noStoreL {ops : Array Oper} (h : noStore ops true = true) : ∀ x ∈ flagsL ops, x.2 = true → ∀ t a v, x.1.op ≠ .store t a v := by
  intro x hx hq
  unfold flagsL at hx
  obtain ⟨y, hy, rfl⟩ := List.mem_map.1 hx
  refine noStore_spec h (y.1, true && !pureOp y.1.op && !inOrder ops y.2) ?_ ?_
  · unfold flags; exact List.mem_map.2 ⟨y, hy, rfl⟩
  · simp only [Bool.and_eq_true, Bool.not_eq_true'] at hq
    have : inOrder ops y.2 = false := by
      cases hi : inOrder ops y.2 with
      | false => rfl
      | true => rw [inOrder_L hi] at hq; cases hq.2
    simp [hq.1.1, this]
theorem flagsL_at {ops : Array Oper} (i : Nat) (x : Oper × Bool) (h : (flagsL ops)[i]? = some x) : ops[0 + i]? = some x.1 := by
  unfold flagsL at h
  rw [List.getElem?_map, List.getElem?_zipIdx, Array.getElem?_toList, Nat.zero_add] at h
  rw [Nat.zero_add]
  cases ho : ops[i]? with
  | none => rw [ho] at h; cases h
  | some o => rw [ho] at h; cases h; rfl
def codeOk (P : Program) : Code → Bool
  | .region _ ops draw => ops.toList.all (opOk P) && (!draw || (regionOk ops && noStore ops draw))
  | .seq a b | .cond _ a b => codeOk P a && codeOk P b
  | .block _ a | .loop a | .scope a => codeOk P a
  | _ => true
theorem codeK_eq : ∀ (c : Code) (A : Act) (S : St) (K : Exit → Act → St → Option β), codeOk P c = true → codeK P W C L c A S K = bindO (codeC P W C L c A S) K := by
  intro c
  induction c with
  | skip => intro A S K h; rfl
  | label l => intro A S K h; rfl
  | exit id => intro A S K h; rfl
  | ret => intro A S K h; rfl
  | goto l => intro A S K h; rfl
  | refuse w => intro A S K h; rfl
  | rangeFunc f p a b => intro A S K h; rfl
  | region id ops draw =>
    intro A S K h
    simp only [codeOk, Bool.and_eq_true, Bool.or_eq_true, Bool.not_eq_true'] at h
    simp only [codeK, codeC]
    have hst : ∀ x ∈ flags ops draw, x.2 = true → ∀ t a v, x.1.op ≠ .store t a v := by
      rcases h.2 with hd | hd
      · intro x hx hq
        rw [hd] at hx
        unfold flags at hx
        obtain ⟨y, _, rfl⟩ := List.mem_map.1 hx
        cases hq
      · exact noStore_spec hd.2
    unfold regC
    rw [if_pos (by
      simp only [Bool.and_eq_true, Bool.or_eq_true, Bool.not_eq_true']
      exact ⟨h.1, h.2.imp (fun h => h) And.left⟩)]
    cases hw : draw && wantsL P ops && freshL ops with
    | false =>
      rw [if_neg (by simp)]
      dsimp only
      rw [opsK_eq _ _ _ _ _ hst]
      cases opsC P W C ops (flags ops draw) A S with
      | none => rfl
      | some r => rfl
    | true =>
      rw [if_pos rfl]
      dsimp only
      simp only [Bool.and_eq_true] at hw
      have hns : noStore ops true = true := by
        rcases h.2 with hd | hd
        · rw [hd] at hw; cases hw.1.1
        · rw [hw.1.1] at hd; exact hd.2
      rw [opsLK_eq _ _ _ _ _ _ _ (noStoreL hns) flagsL_at]
      cases opsL P W C ops (flagsL ops) 0 [] A S with
      | none => rfl
      | some r => rfl
  | seq a b iha ihb =>
    intro A S K h
    simp only [codeOk, Bool.and_eq_true] at h
    simp only [codeK, codeC]
    rw [iha _ _ _ h.1]
    cases codeC P W C L a A S with
    | none => rfl
    | some x =>
      obtain ⟨e, A1, S1⟩ := x
      cases e <;> first | rfl | exact ihb _ _ _ h.2
  | cond c a b iha ihb =>
    intro A S K h
    simp only [codeOk, Bool.and_eq_true] at h
    simp only [codeK, codeC]
    rw [iha _ _ _ h.1, ihb _ _ _ h.2]
    unfold condK
    generalize A.eval c = v
    cases v <;> first | rfl | skip
    rename_i b
    cases b <;> rfl
  | block id a iha =>
    intro A S K h
    simp only [codeOk] at h
    simp only [codeK, codeC]
    rw [iha _ _ _ h]
    cases codeC P W C L a A S with
    | none => rfl
    | some x =>
      obtain ⟨e, A1, S1⟩ := x
      cases e <;> first | rfl | skip
      simp only [bindO, blockK]
      split <;> rfl
  | loop a iha => intro A S K h; rfl
  | scope a iha =>
    intro A S K h
    simp only [codeOk] at h
    simp only [codeK, codeC]
    rw [iha _ _ _ h]
    cases codeC P W C L a A S with
    | none => rfl
    | some x =>
      obtain ⟨e, A1, S1⟩ := x
      cases e <;> rfl
theorem resK_eq (S : St) (tmps : Array Value) : ∀ (rs : List ResultVar) (k : List Value → Option β), resK P W S tmps rs k = (resL P W S tmps rs).bind k
  | [], k => rfl
  | .tmp t :: rs, k => by
    simp only [resK, resL, resV]
    rw [resK_eq S tmps rs]
    cases resL P W S tmps rs <;> rfl
  | .cell a t :: rs, k => by
    simp only [resK, resL, resV]
    cases aLoad P W S t (tmps.getD a undef) with
    | none => rfl
    | some v =>
      simp only [bindV]
      rw [resK_eq S tmps rs]
      cases resL P W S tmps rs <;> rfl
theorem finK_eq (fn : Func) (r : Out) : bindO r (finK P W fn) = finish P W fn r := by
  cases r with
  | none => rfl
  | some x =>
    obtain ⟨e, A, S⟩ := x
    cases e <;> first | rfl | (simp only [bindO, finK, finish]; rw [resK_eq]; cases resL P W S A.tmps fn.results.toList <;> rfl)
def act0 (fn : Func) (args : Array Value) : Act := { tmps := (args.toList ++ List.replicate (fn.ntmps - args.size) undef).toArray, defers := [] }
theorem fn_eq {f : FuncId} {fn : Func} (hf : P.funcs[f]? = some fn) (hb : fn.body.isSome = true) (hok : codeOk P (bodyOf fn) = true) (args : Array Value) (S : St) :
    callW P W G f args S = gcB (G f) args S (codeK P W (callW P W G) loopW (bodyOf fn) (act0 fn args) S (finK P W fn)) := by
  obtain ⟨c, hc⟩ := Option.isSome_iff_exists.1 hb
  rw [callW_eq, codeK_eq _ _ _ _ hok, finK_eq]
  unfold bodyC bodyOf
  simp only [hf, hc, Option.getD_some]
  have : act0 fn args = { tmps := args ++ Array.replicate (fn.ntmps - args.size) undef, defers := [] } := by
    unfold act0
    congr 1
    rw [← Array.toList_inj]
    simp
  rw [this]
theorem round_eq {c : Code} (hok : codeOk P c = true) (A : Act) (S : St) : loopAt P W C loopW c A S = codeK P W C loopW c (clr (deadIn c) A) S (roundK P W C loopW c) := by
  rw [codeK_eq _ _ _ _ hok]
  unfold loopAt
  rw [loopW_eq]
  cases codeC P W C loopW c (clr (deadIn c) A) S with
  | none => rfl
  | some x =>
    obtain ⟨e, A1, S1⟩ := x
    cases e <;> rfl
end
end Go.Proofs.Yteofdikfdknpbaa.E
end
section
namespace Go.Proofs.Yteofdikfdknpbaa.E
open Go Go.RowKit
set_option linter.unusedVariables false
section
variable {β : Type}
@[simp] theorem bindV_some (v : Value) (k : Value → Option β) : bindV (some v) k = k v := rfl
@[simp] theorem bindS_some (v : Value) (S : St) (k : Value → St → Option β) : bindS (some (v, S)) k = k v S := rfl
@[simp] theorem bindT_some (S : St) (k : St → Option β) : bindT (some S) k = k S := rfl
@[simp] theorem bindO_some (e : Exit) (A : Act) (S : St) (k : Exit → Act → St → Option β) : bindO (some (e, A, S)) k = k e A S := rfl
@[simp] theorem condK_true (t e : Option β) : condK (.bool true) t e = t := rfl
@[simp] theorem condK_false (t e : Option β) : condK (.bool false) t e = e := rfl
@[simp] theorem gV_bool (b w : Bool) (k : Bool → Option β) : gV (.bool b) w k = k (b == w) := rfl
@[simp] theorem gV_undef (w : Bool) (k : Bool → Option β) : gV undef w k = k false := rfl
@[simp] theorem wV_true (v : Value) : wV true v = v := rfl
@[simp] theorem wV_false (v : Value) : wV false v = undef := rfl
@[simp] theorem wO_true (x : Option Value) : wO true x = x := rfl
@[simp] theorem wO_false (x : Option Value) : wO false x = some undef := rfl
@[simp] theorem wS_true (S : St) (x : Option (Value × St)) : wS true S x = x := rfl
@[simp] theorem wS_false (S : St) (x : Option (Value × St)) : wS false S x = some (undef, S) := rfl
@[simp] theorem wT_true (S : St) (x : Option St) : wT true S x = x := rfl
@[simp] theorem wT_false (S : St) (x : Option St) : wT false S x = some S := rfl
end
section
variable {P : Program} {W : World}
@[simp] theorem bin_add (t : TypeId) (k : IntKind) (x y : Int) : aBin P .add t (.int k x) (.int k y) = some (.int k (k.wrap (x + y))) := by cases k <;> rfl
@[simp] theorem bin_sub (t : TypeId) (k : IntKind) (x y : Int) : aBin P .sub t (.int k x) (.int k y) = some (.int k (k.wrap (x - y))) := by cases k <;> rfl
@[simp] theorem bin_mul (t : TypeId) (k : IntKind) (x y : Int) : aBin P .mul t (.int k x) (.int k y) = some (.int k (k.wrap (x * y))) := by cases k <;> rfl
theorem bin_quo (t : TypeId) (k : IntKind) (x y : Int) (h : y ≠ 0) : aBin P .quo t (.int k x) (.int k y) = some (.int k (k.wrap (x.tdiv y))) := by
  have : aBin P .quo t (.int k x) (.int k y) = stillF P (Op.intDiv .quo k x y) := by cases k <;> rfl
  rw [this]
  unfold Op.intDiv
  rw [if_neg h]
  rfl
theorem bin_rem (t : TypeId) (k : IntKind) (x y : Int) (h : y ≠ 0) : aBin P .rem t (.int k x) (.int k y) = some (.int k (x.tmod y)) := by
  have : aBin P .rem t (.int k x) (.int k y) = stillF P (Op.intDiv .rem k x y) := by cases k <;> rfl
  rw [this]
  unfold Op.intDiv
  rw [if_neg h]
  rfl
@[simp] theorem bin_lss (t : TypeId) (k : IntKind) (x y : Int) : aBin P .lss t (.int k x) (.int k y) = some (.bool (decide (x < y))) := by cases k <;> rfl
@[simp] theorem bin_leq (t : TypeId) (k : IntKind) (x y : Int) : aBin P .leq t (.int k x) (.int k y) = some (.bool (decide (x ≤ y))) := by cases k <;> rfl
@[simp] theorem bin_gtr (t : TypeId) (k : IntKind) (x y : Int) : aBin P .gtr t (.int k x) (.int k y) = some (.bool (decide (y < x))) := by cases k <;> rfl
@[simp] theorem bin_geq (t : TypeId) (k : IntKind) (x y : Int) : aBin P .geq t (.int k x) (.int k y) = some (.bool (decide (y ≤ x))) := by cases k <;> rfl
@[simp] theorem bin_eql (t : TypeId) (k : IntKind) (x y : Int) : aBin P .eql t (.int k x) (.int k y) = some (.bool (decide (x = y))) := by
  have : aBin P .eql t (.int k x) (.int k y) = some (.bool (x == y)) := by cases k <;> rfl
  rw [this]; congr 2
@[simp] theorem bin_neq (t : TypeId) (k : IntKind) (x y : Int) : aBin P .neq t (.int k x) (.int k y) = some (.bool (!decide (x = y))) := by
  have : aBin P .neq t (.int k x) (.int k y) = some (.bool (x != y)) := by cases k <;> rfl
  rw [this]; congr 2
@[simp] theorem bin_and (t : TypeId) (k : IntKind) (x y : Int) : aBin P .and t (.int k x) (.int k y) = some (.int k (Go.bits .and k x y)) := by cases k <;> rfl
@[simp] theorem bin_or (t : TypeId) (k : IntKind) (x y : Int) : aBin P .or t (.int k x) (.int k y) = some (.int k (Go.bits .or k x y)) := by cases k <;> rfl
@[simp] theorem bin_xor (t : TypeId) (k : IntKind) (x y : Int) : aBin P .xor t (.int k x) (.int k y) = some (.int k (Go.bits .xor k x y)) := by cases k <;> rfl
@[simp] theorem bin_andNot (t : TypeId) (k : IntKind) (x y : Int) : aBin P .andNot t (.int k x) (.int k y) = some (.int k (Go.bits .andNot k x y)) := by cases k <;> rfl
theorem bin_shr (t : TypeId) (k k' : IntKind) (x y : Int) (h : ¬ y < 0) : aBin P .shr t (.int k x) (.int k' y) = some (.int k (x.fdiv (2 ^ min y.toNat k.bits))) := by
  have : aBin P .shr t (.int k x) (.int k' y) = stillF P (Op.shift .shr k x k' y) := by cases k <;> cases k' <;> rfl
  rw [this]
  unfold Op.shift
  rw [if_neg h]
  rfl
@[simp] theorem un_not (b : Bool) : aUn P .not (.bool b) = some (.bool !b) := rfl
@[simp] theorem un_neg (k : IntKind) (x : Int) : aUn P .neg (.int k x) = some (.int k (k.wrap (0 - x))) := by cases k <;> rfl
@[simp] theorem pick_true (a b : Value) : aPick (.bool true) a b = some a := rfl
@[simp] theorem pick_false (a b : Value) : aPick (.bool false) a b = some b := rfl
@[simp] theorem bin_str_eql (t : TypeId) (x y : ByteArray) : aBin P .eql t (.string x) (.string y) = some (.bool (decide (x = y))) := by
  have h : aBin P .eql t (.string x) (.string y) = some (.bool (x.toList == y.toList)) := rfl
  rw [h]
  congr 2
  rw [Bool.eq_iff_iff, beq_iff_eq, decide_eq_true_iff, ByteArray.toList_eq, ByteArray.toList_eq]
  exact ⟨fun e => ByteArray.ext (Array.toList_inj.1 e), fun e => by rw [e]⟩
@[simp] theorem bin_str_neq (t : TypeId) (x y : ByteArray) : aBin P .neq t (.string x) (.string y) = some (.bool (!decide (x = y))) := by
  have h : aBin P .neq t (.string x) (.string y) = some (.bool (!(x.toList == y.toList))) := rfl
  rw [h]
  congr 3
  rw [Bool.eq_iff_iff, beq_iff_eq, decide_eq_true_iff, ByteArray.toList_eq, ByteArray.toList_eq]
  exact ⟨fun e => ByteArray.ext (Array.toList_inj.1 e), fun e => by rw [e]⟩
theorem eqIn_bool {t : TypeId} (hu : P.underlying t = some .bool) (n : Nat) (a b : Bool) : still P (Op.equalIn (n + 1) t (.bool a) (.bool b)) = some (a == b) := by
  simp only [Op.equalIn]
  rw [still_bind, still_und, hu, Option.bind_some]
  rfl
theorem eqIn_ptr {t e : TypeId} (hu : P.underlying t = some (.pointer e)) (n : Nat) (a : Option Addr) : still P (Op.equalIn (n + 1) t (.pointer a) (.pointer none)) = some a.isNone := by
  simp only [Op.equalIn]
  rw [still_bind, still_und, hu, Option.bind_some]
  cases a <;> rfl
theorem eqIn_sl {t e : TypeId} (hu : P.underlying t = some (.slice e)) (n : Nat) (a : Option Addr) (l c l' c' : Nat) : still P (Op.equalIn (n + 1) t (.slice a l c) (.slice none l' c')) = some a.isNone := by
  simp only [Op.equalIn]
  rw [still_bind, still_und, hu, Option.bind_some]
  cases a <;> rfl
theorem bin_bool_eql {t : TypeId} (hu : P.underlying t = some .bool) (a b : Bool) : aBin P .eql t (.bool a) (.bool b) = some (.bool (a == b)) := by
  have h : aBin P .eql t (.bool a) (.bool b) = stillF P (do pure (.bool (← Op.equal t (.bool a) (.bool b)))) := rfl
  rw [h]
  unfold stillF
  rw [still_bind, show Op.equal t (.bool a) (.bool b) = Op.equalIn (9999 + 1) t (.bool a) (.bool b) from rfl, eqIn_bool hu]
  rfl
theorem bin_bool_neq {t : TypeId} (hu : P.underlying t = some .bool) (a b : Bool) : aBin P .neq t (.bool a) (.bool b) = some (.bool (a != b)) := by
  have h : aBin P .neq t (.bool a) (.bool b) = stillF P (do pure (.bool (!(← Op.equal t (.bool a) (.bool b))))) := rfl
  rw [h]
  unfold stillF
  rw [still_bind, show Op.equal t (.bool a) (.bool b) = Op.equalIn (9999 + 1) t (.bool a) (.bool b) from rfl, eqIn_bool hu]
  rfl
theorem bin_ptr_eql {t e : TypeId} (hu : P.underlying t = some (.pointer e)) (a : Option Addr) : aBin P .eql t (.pointer a) (.pointer none) = some (.bool a.isNone) := by
  have h : aBin P .eql t (.pointer a) (.pointer none) = stillF P (do pure (.bool (← Op.equal t (.pointer a) (.pointer none)))) := by cases a <;> rfl
  rw [h]
  unfold stillF
  rw [still_bind, show Op.equal t (.pointer a) (.pointer none) = Op.equalIn (9999 + 1) t (.pointer a) (.pointer none) from rfl, eqIn_ptr hu]
  cases a <;> rfl
theorem bin_ptr_neq {t e : TypeId} (hu : P.underlying t = some (.pointer e)) (a : Option Addr) : aBin P .neq t (.pointer a) (.pointer none) = some (.bool (!a.isNone)) := by
  have h : aBin P .neq t (.pointer a) (.pointer none) = stillF P (do pure (.bool (!(← Op.equal t (.pointer a) (.pointer none))))) := by cases a <;> rfl
  rw [h]
  unfold stillF
  rw [still_bind, show Op.equal t (.pointer a) (.pointer none) = Op.equalIn (9999 + 1) t (.pointer a) (.pointer none) from rfl, eqIn_ptr hu]
  cases a <;> rfl
theorem bin_sl_eql {t e : TypeId} (hu : P.underlying t = some (.slice e)) (a : Option Addr) (l c l' c' : Nat) : aBin P .eql t (.slice a l c) (.slice none l' c') = some (.bool a.isNone) := by
  have h : aBin P .eql t (.slice a l c) (.slice none l' c') = stillF P (do pure (.bool (← Op.equal t (.slice a l c) (.slice none l' c')))) := by cases a <;> rfl
  rw [h]
  unfold stillF
  rw [still_bind, show Op.equal t (.slice a l c) (.slice none l' c') = Op.equalIn (9999 + 1) t (.slice a l c) (.slice none l' c') from rfl, eqIn_sl hu]
  cases a <;> rfl
@[simp] theorem ex_tuple (vs : Array Value) (i : Nat) : still P (Instr.extract (.tuple vs) i) = vs[i]? := by
  unfold Instr.extract
  dsimp only
  cases vs[i]? <;> rfl
@[simp] theorem nil_ptr (a : Addr) : aNil (.pointer (some a)) = some (.pointer (some a)) := rfl
@[simp] theorem nil_func (f : FuncId) (u v : Array Value) : aNil (.func (.func f) u v) = some (.func (.func f) u v) := rfl
@[simp] theorem add_mk (b o n : Nat) : (⟨b, o, none⟩ : Addr).add n = ⟨b, o + n, none⟩ := by
  unfold Addr.add
  split
  · rename_i h; subst h; rfl
  · rfl
theorem conv_int {src dst : TypeId} {d : TypeDesc} {k : IntKind} (h1 : P.underlying src = some d) (h2 : P.underlying dst = some (.int k)) (S : St) (k' : IntKind) (x : Int) : aConv P W S src dst (.int k' x) = some (.int k (k.wrap x), S) := by
  have h : aConv P W S src dst (.int k' x) = (match stillF P (convert src dst (.int k' x)) with | some v => some (v, S) | none => none) := rfl
  rw [h]
  have hc : still P (convert src dst (.int k' x)) = some (.int k (k.wrap x)) := by
    unfold convert
    rw [still_bind, still_und, h1, Option.bind_some, still_bind, still_und, h2, Option.bind_some]
    cases d <;> rfl
  unfold stillF
  rw [hc]
  rfl
theorem len_slice {t e : TypeId} (h : P.underlying t = some (.slice e)) (S : St) (a : Option Addr) (n c : Nat) : aLen P W S #[t] #[.slice a n c] = some (.int .i64 n) := by
  have h0 : aLen P W S #[t] #[.slice a n c] = stillF P (Builtin.len_ #[t] 0 #[.slice a n c]) := rfl
  rw [h0]
  have : still P (Builtin.len_ #[t] 0 #[.slice a n c]) = some (.int .i64 n) := by
    show still P (do match ← underlying t, (.slice a n c : Value) with
      | .string, .string s => pure (goInt s.size)
      | .array n _, _ => pure (goInt n)
      | .pointer arr, _ => do
        let .array n _ ← underlying arr | stuck "len: pointer to array expected"
        pure (goInt n)
      | .slice _, .slice _ n _ => pure (goInt n)
      | .map _ _, .map none | .chan _ _, .chan none => pure (goInt 0)
      | .map _ _, .map (some r) => do
        let .map entries _ ← getObj r | stuck "len: map expected"
        pure (goInt entries.size)
      | .chan _ _, .chan (some r) => do
        let .chan _ buf _ _ _ timer ← getObj r | stuck "len: channel expected"
        pure (goInt (if timer then 0 else buf.size))
      | _, _ => stuck "len: string, array, pointer to array, slice, map or channel expected") = _
    rw [still_bind, still_und, h, Option.bind_some]
    rfl
  unfold stillF
  rw [this]
  rfl
end
end Go.Proofs.Yteofdikfdknpbaa.E
end
section
namespace Go.Proofs.Yteofdikfdknpbaa.E
open Go Go.RowKit
set_option linter.unusedVariables false
structure Gd (W : World) (S : St) : Prop where
  lock : W.heap.size ≤ S.lock
  ok : Ok S
  cl : Cl S
theorem Gd.n {W : World} {S : St} (h : Gd W S) : W.heap.size ≤ S.c := Nat.le_trans h.lock h.ok.1
theorem vlt0_mono {n m : Nat} (h : n ≤ m) {v : Value} (k : vlt0 n v = true) : vlt0 m v = true := by
  cases v with
  | pointer a =>
    cases a with
    | none => rfl
    | some a => exact decide_eq_true (Nat.lt_of_lt_of_le (of_decide_eq_true k) h)
  | slice a l c =>
    cases a with
    | none => rfl
    | some a => exact decide_eq_true (Nat.lt_of_lt_of_le (of_decide_eq_true k) h)
  | map a =>
    cases a with
    | none => rfl
    | some a => exact decide_eq_true (Nat.lt_of_lt_of_le (of_decide_eq_true k) h)
  | _ => exact k
theorem vlt1_mono {n m : Nat} (h : n ≤ m) {v : Value} (k : vlt1 n v = true) : vlt1 m v = true := by
  cases v with
  | func f a b =>
    simp only [vlt1, Bool.and_eq_true, Array.all_eq_true_iff_forall_mem] at k ⊢
    exact ⟨fun x hx => vlt0_mono h (k.1 x hx), fun x hx => vlt0_mono h (k.2 x hx)⟩
  | pointer a => exact vlt0_mono (v := .pointer a) h k
  | slice a l c => exact vlt0_mono (v := .slice a l c) h k
  | map a => exact vlt0_mono (v := .map a) h k
  | _ => first | rfl | exact k
theorem vlt_mono {n m : Nat} (h : n ≤ m) {v : Value} (k : vlt n v = true) : vlt m v = true := by
  cases v with
  | agg cs =>
    simp only [vlt, Array.all_eq_true_iff_forall_mem] at k ⊢
    exact fun x hx => vlt1_mono h (k x hx)
  | pointer a => exact vlt1_mono (v := .pointer a) h k
  | slice a l c => exact vlt1_mono (v := .slice a l c) h k
  | map a => exact vlt1_mono (v := .map a) h k
  | func f a b => exact vlt1_mono (v := .func f a b) h k
  | _ => first | rfl | exact k
theorem objLt_mono {n m : Nat} (h : n ≤ m) {o : AObj} (k : objLt n o = true) : objLt m o = true := by
  cases o with
  | row cs q =>
    simp only [objLt, List.all_eq_true] at k ⊢
    exact fun x hx => vlt1_mono h (k x hx)
  | _ => rfl
@[simp] theorem objLt_row (n : Nat) (cs : List Value) (k : Nat) : objLt n (.row cs k) = cs.all (vlt1 n) := rfl
@[simp] theorem objLt_dead (n : Nat) : objLt n .dead = true := rfl
@[simp] theorem vlt1_int (n : Nat) (k : IntKind) (i : Int) : vlt1 n (.int k i) = true := rfl
@[simp] theorem vlt1_bool (n : Nat) (b : Bool) : vlt1 n (.bool b) = true := rfl
@[simp] theorem vlt1_string (n : Nat) (b : ByteArray) : vlt1 n (.string b) = true := rfl
@[simp] theorem vlt1_nilp (n : Nat) : vlt1 n (.pointer none) = true := rfl
@[simp] theorem vlt1_nils (n l c : Nat) : vlt1 n (.slice none l c) = true := rfl
@[simp] theorem vlt1_ptr (n : Nat) (a : Addr) : vlt1 n (.pointer (some a)) = decide (a.block < n) := rfl
@[simp] theorem vlt1_sl (n : Nat) (a : Addr) (l c : Nat) : vlt1 n (.slice (some a) l c) = decide (a.block < n) := rfl
@[simp] theorem vlt1_func (n : Nat) (f : Fn) (a b : Array Value) : vlt1 n (.func f a b) = (a.all (vlt0 n) && b.all (vlt0 n)) := rfl
@[simp] theorem vlt0_ptr (n : Nat) (a : Addr) : vlt0 n (.pointer (some a)) = decide (a.block < n) := rfl
@[simp] theorem vlt0_sl (n : Nat) (a : Addr) (l c : Nat) : vlt0 n (.slice (some a) l c) = decide (a.block < n) := rfl
@[simp] theorem vlt0_int (n : Nat) (k : IntKind) (i : Int) : vlt0 n (.int k i) = true := rfl
@[simp] theorem vlt0_bool (n : Nat) (b : Bool) : vlt0 n (.bool b) = true := rfl
@[simp] theorem vlt0_string (n : Nat) (b : ByteArray) : vlt0 n (.string b) = true := rfl
@[simp] theorem vlt0_nilp (n : Nat) : vlt0 n (.pointer none) = true := rfl
@[simp] theorem vlt0_nils (n l c : Nat) : vlt0 n (.slice none l c) = true := rfl
@[simp] theorem vlt_int (n : Nat) (k : IntKind) (i : Int) : vlt n (.int k i) = true := rfl
@[simp] theorem vlt_bool (n : Nat) (b : Bool) : vlt n (.bool b) = true := rfl
@[simp] theorem vlt_string (n : Nat) (b : ByteArray) : vlt n (.string b) = true := rfl
@[simp] theorem vlt_nilp (n : Nat) : vlt n (.pointer none) = true := rfl
@[simp] theorem vlt_nils (n l c : Nat) : vlt n (.slice none l c) = true := rfl
@[simp] theorem vlt_ptr (n : Nat) (a : Addr) : vlt n (.pointer (some a)) = decide (a.block < n) := rfl
@[simp] theorem vlt_sl (n : Nat) (a : Addr) (l c : Nat) : vlt n (.slice (some a) l c) = decide (a.block < n) := rfl
@[simp] theorem vlt_agg (n : Nat) (cs : List Value) : vlt n (.agg cs.toArray) = cs.all (vlt1 n) := by simp [vlt]
@[simp] theorem vlt_func (n : Nat) (f : Fn) (a b : List Value) : vlt n (.func f a.toArray b.toArray) = (a.all (vlt0 n) && b.all (vlt0 n)) := by simp [vlt, vlt1]
structure Ext (D : List Nat) (S S' : St) : Prop where
  c : S.c ≤ S'.c
  lock : S'.lock = S.lock
  same : ∀ i, i < S.c → i ∉ D → S'.heap i = S.heap i
  ok : Ok S'
  cl : Cl S → Cl S'
section
variable {W : World} {S S' S'' : St} {D D' : List Nat} {b : Nat}
theorem Ext.refl (h : Ok S) : Ext D S S := ⟨Nat.le_refl _, rfl, fun _ _ _ => rfl, h, fun h => h⟩
theorem Ext.good (h : Ext D S S') (g : Gd W S) : Gd W S' := ⟨by rw [h.lock]; exact g.lock, h.ok, h.cl g.cl⟩
theorem Ext.trans (h : Ext D S S') (k : Ext D' S' S'') (hD : ∀ i, i ∈ D' → i < S.c → i ∈ D) : Ext D S S'' :=
  ⟨Nat.le_trans h.c k.c, k.lock.trans h.lock, fun i hi hd => (k.same i (Nat.lt_of_lt_of_le hi h.c) (fun hh => hd (hD i hh hi))).trans (h.same i hi hd), k.ok, fun q => k.cl (h.cl q)⟩
theorem Ext.mono (h : Ext D S S') (hD : ∀ i, i ∈ D → i ∈ D') : Ext D' S S' := ⟨h.c, h.lock, fun i hi hd => h.same i hi fun hh => hd (hD i hh), h.ok, h.cl⟩
theorem Ext.then (h : Ext [] S S') (k : Ext [] S' S'') : Ext [] S S'' := h.trans k fun i hi => absurd hi (by simp)
theorem Ext.new (h : Ok S) {o : AObj} (ho : objLt (S.c + 1) o = true) : Ext D S (S.new o) :=
  ⟨Nat.le_succ _, rfl, fun i hi _ => if_neg (by omega), ⟨Nat.le_succ_of_le h.1, fun i hi => by
    have hi : S.c + 1 ≤ i := hi
    show (if i = S.c then o else S.heap i) = _
    rw [if_neg (by omega)]
    exact h.2 i (by omega)⟩, fun q i hi => by
    show objLt (S.c + 1) (if i = S.c then o else S.heap i) = true
    have hi : i < S.c + 1 := hi
    by_cases h : i = S.c
    · rw [if_pos h]; exact ho
    · rw [if_neg h]; exact objLt_mono (Nat.le_succ _) (q i (by omega))⟩
theorem Ext.upd (h : Ok S) {i : Nat} (hi : i < S.c) {o : AObj} (ho : objLt S.c o = true) : Ext [i] S (S.upd i o) :=
  ⟨Nat.le_refl _, rfl, fun j _ hj => if_neg (by simpa using hj), ⟨h.1, fun j hj => by
    have hj : S.c ≤ j := hj
    show (if j = i then o else S.heap j) = _
    rw [if_neg (by omega)]
    exact h.2 j hj⟩, fun q j hj => by
    show objLt S.c (if j = i then o else S.heap j) = true
    by_cases h : j = i
    · rw [if_pos h]; exact ho
    · rw [if_neg h]; exact q j hj⟩
theorem Ext.low (h : Ext [] S S') : Low S S' := ⟨h.lock, h.c, fun i hi => h.same i hi (by simp)⟩
theorem isZ_none (b o : Nat) : isZ W ⟨b, o, none⟩ = false := rfl
@[simp] theorem new_self (o : AObj) : (S.new o).heap S.c = o := if_pos rfl
@[simp] theorem new_c (o : AObj) : (S.new o).c = S.c + 1 := rfl
@[simp] theorem new_lock (o : AObj) : (S.new o).lock = S.lock := rfl
@[simp] theorem upd_self (i : Nat) (o : AObj) : (S.upd i o).heap i = o := if_pos rfl
theorem upd_ne {i j : Nat} (o : AObj) (h : j ≠ i) : (S.upd i o).heap j = S.heap j := if_neg h
@[simp] theorem upd_c (i : Nat) (o : AObj) : (S.upd i o).c = S.c := rfl
@[simp] theorem upd_lock (i : Nat) (o : AObj) : (S.upd i o).lock = S.lock := rfl
theorem relock_ok' (h : Ok S) : Ok (S.relock S.c) := ⟨Nat.le_refl _, h.2⟩
theorem Gd.relock (h : Gd W S) : Gd W (S.relock S.c) := ⟨h.n, relock_ok' h.ok, h.cl⟩
theorem Ext.relock (h : Ext D (S.relock S.c) S') (hl : S.lock ≤ S.c) : Ext D S (S'.relock S.lock) :=
  ⟨h.c, rfl, h.same, ⟨Nat.le_trans hl h.c, h.ok.2⟩, h.cl⟩
theorem Ext.lt (h : Ok S) {i : Nat} (hd : S.heap i ≠ .dead) : i < S.c := Nat.lt_of_not_le fun hh => hd (h.2 i hh)
theorem row_lt (h : Ok S) {i : Nat} {cs : List Value} {k : Nat} (hr : S.heap i = .row cs k) : i < S.c := Ext.lt h (by rw [hr]; exact fun e => by cases e)
theorem cells_mk (hb : W.heap.size ≤ b) {cs : List Value} {k o n : Nat} (h : S.heap b = .row cs k) (hle : o + n ≤ cs.length) : S.cells W ⟨b, o, none⟩ n = some ((cs.drop o).take n) := by
  unfold St.cells
  by_cases h0 : n = 0
  · subst h0; rw [if_pos rfl]; simp
  · rw [if_neg h0, if_neg (by dsimp only; omega), h]
    dsimp only
    rw [if_pos hle]
theorem cells_all (hb : W.heap.size ≤ b) {cs : List Value} {k : Nat} (h : S.heap b = .row cs k) : S.cells W ⟨b, 0, none⟩ cs.length = some cs := by
  rw [cells_mk hb h (by omega)]; simp
@[simp] theorem fx_row (hb : W.heap.size ≤ b) {cs : List Value} {k o : Nat} {sp : Option Nat} (h : S.heap b = .row cs k) : S.fx W ⟨b, o, sp⟩ = some k := by
  unfold St.fx
  rw [if_neg (by dsimp only; omega), h]
theorem fx_old {a : Addr} (hb : a.block < W.heap.size) : S.fx W a = some 0 := if_pos hb
end
section
variable {P : Program} {W : World} {S S' : St}
@[simp] theorem box_mk {v : Value} (h : notJ v = true) : aBox S v = some (.pointer (some ⟨S.c, 0, none⟩), S.new (.row v.cells.toList 0)) := by
  unfold aBox; rw [if_pos h]
theorem store_mk {t : TypeId} {a : Addr} {v : Value} (hs : szOf P t = some v.cells.size) (hj : notJ v = true) : aStore P S t (.pointer (some a)) v = S.put a v.cells.toList := by
  simp only [aStore]; rw [if_pos ⟨hs, hj⟩]
theorem index_mk {t e : TypeId} {n : Nat} (h : P.underlying t = some (.slice e)) (hs : szOf P e = some n) {a : Addr} {len c : Nat} {k : IntKind} {i : Int} (h0 : 0 ≤ i) (h1 : i < len) :
    aIndexAddr P t (.slice (some a) len c) (.int k i) = some (.pointer (some (a.add (i.toNat * n)))) := by
  simp only [aIndexAddr, h, hs, if_pos (And.intro h0 h1)]
structure Elem (P : Program) (st e : TypeId) (z : Value) (sz by_ : Nat) : Prop where
  und : P.underlying st = some (.slice e)
  info : ∃ ie, P.info? e = some ie ∧ ie.zero = some z ∧ ie.size = sz ∧ ie.bytes = by_
  zsz : z.cells.size = sz
  pos : 0 < sz
  bpos : 0 < by_
  flat : flat z = true
theorem Elem.sz {st e : TypeId} {z : Value} {sz by_ : Nat} (h : Elem P st e z sz by_) : szOf P e = some sz := by
  obtain ⟨ie, h1, _, h3, _⟩ := h.info
  unfold szOf
  rw [h1, ← h3]; rfl
def elemB (P : Program) (st e : TypeId) (sz by_ : Nat) : Bool :=
  (match P.underlying st with | some (.slice e') => e' == e | _ => false) &&
  (match P.info? e with
   | some ie => ie.size == sz && ie.bytes == by_ && (match ie.zero with | some z => z.cells.size == sz && flat z | none => false)
   | none => false) && decide (0 < sz) && decide (0 < by_)
def zeroOf (P : Program) (e : TypeId) : Value := match P.info? e with | some ie => ie.zero.getD undef | none => undef
theorem elem_of {st e : TypeId} {sz by_ : Nat} (h : elemB P st e sz by_ = true) : Elem P st e (zeroOf P e) sz by_ := by
  unfold elemB at h
  simp only [Bool.and_eq_true, decide_eq_true_eq] at h
  obtain ⟨⟨⟨h1, h2⟩, h3⟩, h4⟩ := h
  have hu : P.underlying st = some (.slice e) := by
    split at h1
    · rename_i e' he; rw [he]; simp only [beq_iff_eq] at h1; rw [h1]
    · cases h1
  cases hi : P.info? e with
  | none => rw [hi] at h2; cases h2
  | some ie =>
    rw [hi] at h2
    simp only [Bool.and_eq_true, beq_iff_eq] at h2
    cases hz : ie.zero with
    | none => rw [hz] at h2; exact absurd h2.2 (by simp)
    | some z =>
      rw [hz] at h2
      simp only [Bool.and_eq_true, beq_iff_eq] at h2
      have e0 : zeroOf P e = z := by unfold zeroOf; rw [hi]; dsimp only; rw [hz]; rfl
      rw [e0]
      exact ⟨hu, ⟨ie, hi, hz, h2.1.1, h2.1.2⟩, h2.2.1, h3, h4, h2.2.2⟩
def SrcIs (P : Program) (W : World) (S : St) (xt : TypeId) (sz : Nat) (z x : Value) (n : Nat) (new : List Value) : Prop := srcOf P W S xt sz z x = some (n, new)
theorem src_slice {xt : TypeId} {d : TypeDesc} (hx : P.underlying xt = some d) (hd : ∀ k, d ≠ .int k) {sz : Nat} {z : Value} {a : Addr} {n c : Nat} {l : List Value} (h : S.cells W a (n * sz) = some l) : SrcIs P W S xt sz z (.slice (some a) n c) n l := by
  have hi : isIntT P xt = false := by unfold isIntT; rw [hx]; cases d <;> first | rfl | exact absurd rfl (hd _)
  unfold SrcIs srcOf
  rw [hx, hi]
  rw [if_neg (by simp)]
  simp only [Bool.false_eq_true, if_false, srcCells, h]
theorem src_nil {xt : TypeId} {d : TypeDesc} (hx : P.underlying xt = some d) (hd : ∀ k, d ≠ .int k) {sz : Nat} {z : Value} {c : Nat} : SrcIs P W S xt sz z (.slice none 0 c) 0 [] := by
  have hi : isIntT P xt = false := by unfold isIntT; rw [hx]; cases d <;> first | rfl | exact absurd rfl (hd _)
  unfold SrcIs srcOf
  rw [hx, hi]
  rw [if_neg (by simp)]
  simp [srcCells]
def Own (S : St) (v : Value) (sz : Nat) (cs : List Value) : Prop :=
  (v = .slice none 0 0 ∧ cs = []) ∨
  ∃ b n c pre, v = .slice (some ⟨b, pre.length, none⟩) n c ∧ S.lock ≤ b ∧ S.heap b = .row (pre ++ cs) sz ∧ n * sz = cs.length ∧ n ≤ c
def blkOf : Value → List Nat
  | .slice (some a) _ _ => [a.block]
  | _ => []
theorem Own.keep {v : Value} {sz : Nat} {cs : List Value} {D : List Nat} (h : Own S v sz cs) (e : Ext D S S') (hd : ∀ i, i ∈ blkOf v → i ∉ D) (ok : Ok S) : Own S' v sz cs := by
  rcases h with h | ⟨b, n, c, pre, rfl, h1, h2, h3⟩
  · exact .inl h
  · exact .inr ⟨b, n, c, pre, rfl, by rw [e.lock]; exact h1, by rw [e.same b (row_lt ok h2) (hd b (by simp [blkOf]))]; exact h2, h3⟩
theorem own_nil {sz : Nat} : Own S (.slice none 0 0) sz [] := .inl ⟨rfl, rfl⟩
theorem append_own (g : Gd W S) {st xt e : TypeId} {z : Value} {sz by_ : Nat} (E : Elem P st e z sz by_) {v : Value} {cs : List Value} (h : Own S v sz cs) {x : Value} {n : Nat} {new : List Value} (hx : SrcIs P W S xt sz z x n new) (hn : new.length = n * sz) (hst : new.all storable = true) (hcl : new.all (vlt1 S.c) = true)
    {len : Nat} (hl : cs.length = len * sz) (hb : (len + n + (len + n) / 4 + 512) * by_ ≤ 2 ^ 48) :
    ∃ v' S', aBuiltin P W S .append #[st, xt] #[v, x] = some (v', S') ∧ Own S' v' sz (cs ++ new) ∧ Ext (blkOf v) S S' ∧ (∀ i, i ∈ blkOf v' → S.c ≤ i) := by
  obtain ⟨ie, i1, i2, i3, i4⟩ := E.info
  have hx : srcOf P W S xt ie.size z x = some (n, new) := by rw [i3]; exact hx
  have hcond : z.cells.size = ie.size ∧ 0 < ie.size ∧ 0 < ie.bytes ∧ flat z = true := ⟨E.zsz.trans i3.symm, by rw [i3]; exact E.pos, by rw [i4]; exact E.bpos, E.flat⟩
  rcases h with ⟨rfl, rfl⟩ | ⟨b, m, c, pre, rfl, h1, h2, h3, h3c⟩
  · have hlen : len = 0 := by
      have := E.pos
      rcases Nat.eq_zero_or_pos len with h | h
      · exact h
      · have := Nat.mul_pos h E.pos; simp at hl; omega
    subst hlen
    by_cases h0 : n = 0
    · subst h0
      have : new = [] := List.eq_nil_of_length_eq_zero (by rw [hn]; omega)
      subst this
      refine ⟨.slice none 0 0, S, ?_, own_nil, Ext.refl g.ok, fun i hi => absurd hi (by simp [blkOf])⟩
      show aAppend P W S #[st, xt] #[.slice none 0 0, x] = _
      have a0 : (#[Value.slice none 0 0, x] : Array Value)[0]? = some (.slice none 0 0) := rfl
      have a1 : (#[Value.slice none 0 0, x] : Array Value)[1]? = some x := rfl
      unfold aAppend
      simp only [a0, a1, List.getElem?_toArray, List.getElem?_cons_zero, List.getElem?_cons_succ, E.und, i1, i2, if_pos hcond, hx]
      rw [if_pos (by rw [i4]; exact hb)]
      simp
    · refine ⟨.slice (some ⟨S.c, 0, none⟩) n n, S.new (.row new sz), ?_, .inr ⟨S.c, n, n, [], rfl, g.ok.1, by simp, by simpa using hn.symm, Nat.le_refl _⟩, Ext.new g.ok (objLt_mono (Nat.le_succ _) hcl), fun i hi => by simp [blkOf] at hi; omega⟩
      show aAppend P W S #[st, xt] #[.slice none 0 0, x] = _
      have a0 : (#[Value.slice none 0 0, x] : Array Value)[0]? = some (.slice none 0 0) := rfl
      have a1 : (#[Value.slice none 0 0, x] : Array Value)[1]? = some x := rfl
      unfold aAppend
      simp only [a0, a1, List.getElem?_toArray, List.getElem?_cons_zero, List.getElem?_cons_succ, E.und, i1, i2, if_pos hcond, hx]
      rw [if_pos (by rw [i4]; exact hb)]
      simp [h0, i3]
  · have hm : m = len := by
      have := E.pos
      rw [hl] at h3
      exact Nat.eq_of_mul_eq_mul_right E.pos h3
    subst hm
    have hbl : b < S.c := row_lt g.ok h2
    have hNb : W.heap.size ≤ b := Nat.le_trans g.lock h1
    refine ⟨.slice (some ⟨S.c, 0, none⟩) (m + n) (m + n), (S.upd b .dead).new (.row (cs ++ new) sz), ?_, .inr ⟨S.c, m + n, m + n, [], rfl, g.ok.1, by
        show (if S.c = S.c then _ else _) = _
        rw [if_pos rfl]; rfl, by rw [Nat.add_mul, List.length_append, ← hn, h3], Nat.le_refl _⟩, ?_, fun i hi => by simp [blkOf] at hi; omega⟩
    · show aAppend P W S #[st, xt] #[.slice (some ⟨b, pre.length, none⟩) m c, x] = _
      have a0 : (#[Value.slice (some ⟨b, pre.length, none⟩) m c, x] : Array Value)[0]? = some (.slice (some ⟨b, pre.length, none⟩) m c) := rfl
      have a1 : (#[Value.slice (some ⟨b, pre.length, none⟩) m c, x] : Array Value)[1]? = some x := rfl
      obtain ⟨q, hq⟩ : ∃ q, sz = q + 1 := ⟨sz - 1, by have := E.pos; omega⟩
      have hfx : S.fx W ⟨b, pre.length, none⟩ = some (q + 1) := by rw [fx_row hNb h2, hq]
      unfold aAppend
      simp only [a0, a1, List.getElem?_toArray, List.getElem?_cons_zero, List.getElem?_cons_succ, E.und, i1, i2, if_pos hcond, hx]
      rw [if_pos (by rw [i4]; exact hb)]
      rw [if_neg (by rw [isZ_none]; exact Bool.false_ne_true)]
      simp only [hfx, h2]
      rw [if_pos ⟨by rw [i3, hq], by rw [i3, h3, List.length_append]; exact Nat.le_refl _, h1, hst⟩]
      rw [i3, h3]
      simp
    · have e1 := Ext.upd (S := S) g.ok hbl (o := .dead) rfl
      have hrow := g.cl b hbl
      rw [h2, objLt_row, List.all_append, Bool.and_eq_true] at hrow
      exact e1.trans (Ext.new e1.ok (D := []) (objLt_mono (Nat.le_succ S.c) (by rw [objLt_row, List.all_append, hrow.2, hcl]; rfl))) fun i hi => absurd hi (by simp)
end
end Go.Proofs.Yteofdikfdknpbaa.E
end
section
namespace Go.Proofs.Yteofdikfdknpbaa.E
open Go Go.RowKit
set_option linter.unusedVariables false
section
variable {β : Type}
@[congr] theorem bindV_congr {x y : Option Value} (h : x = y) (k : Value → Option β) : bindV x k = bindV y k := by rw [h]
@[congr] theorem bindS_congr {x y : Option (Value × St)} (h : x = y) (k : Value → St → Option β) : bindS x k = bindS y k := by rw [h]
@[congr] theorem bindT_congr {x y : Option St} (h : x = y) (k : St → Option β) : bindT x k = bindT y k := by rw [h]
@[congr] theorem bindO_congr {x y : Out} (h : x = y) (k : Exit → Act → St → Option β) : bindO x k = bindO y k := by rw [h]
@[congr] theorem condK_congr {v w : Value} (h : v = w) (t e : Option β) : condK v t e = condK w t e := by rw [h]
@[congr] theorem gV_congr {v w : Value} (h : v = w) (b : Bool) (k : Bool → Option β) : gV v b k = gV w b k := by rw [h]
@[congr] theorem chkP_congr {q q' : Prop} (h : q = q') (k : Option β) : chkP q k = chkP q' k := by rw [h]
@[congr] theorem chkG_congr {g g' : Bool} (h : g = g') (q : Prop) (k : Option β) : chkG g q k = chkG g' q k := by rw [h]
@[simp] theorem chkP_true (k : Option β) : chkP True k = k := if_pos trivial
def IsT (b : Bool) : Prop := b = true
theorem isT_of {b : Bool} (h : b = true) : IsT b := h
@[congr] theorem wO_congr {g g' : Bool} {x y : Option Value} (h : g = g') (h2 : IsT g' → x = y) : wO g x = wO g' y := by
  subst h
  cases g
  · rfl
  · exact h2 rfl
@[congr] theorem wS_congr {g g' : Bool} (S : St) {x y : Option (Value × St)} (h : g = g') (h2 : IsT g' → x = y) : wS g S x = wS g' S y := by
  subst h
  cases g
  · rfl
  · exact h2 rfl
@[congr] theorem wT_congr {g g' : Bool} (h : g = g') (S : St) (x : Option St) : wT g S x = wT g' S x := by rw [h]
end
theorem gV_tt {β : Type} (k : Bool → Option β) : gV (.bool true) true k = k true := rfl
theorem gV_tf {β : Type} (k : Bool → Option β) : gV (.bool true) false k = k false := rfl
theorem gV_ft {β : Type} (k : Bool → Option β) : gV (.bool false) true k = k false := rfl
theorem gV_ff {β : Type} (k : Bool → Option β) : gV (.bool false) false k = k true := rfl
@[simp] theorem bff : (false == true) = false := rfl
@[simp] theorem bft : (true == false) = false := rfl
@[simp] theorem qS_true (S : St) (f : St → Option (Value × St)) : qS true S f = unlock S.lock (f (S.relock S.c)) := rfl
@[simp] theorem unlock_some (l : Nat) (v : Value) (S : St) : unlock l (some (v, S)) = some (v, S.relock l) := rfl
def nth : List Value → Nat → Option Value
  | [], _ => none
  | v :: _, 0 => some v
  | _ :: vs, n + 1 => nth vs n
@[simp] theorem nth_zero (v : Value) (vs : List Value) : nth (v :: vs) 0 = some v := rfl
@[simp] theorem nth_succ (v : Value) (vs : List Value) (n : Nat) : nth (v :: vs) (n + 1) = nth vs n := rfl
theorem nth_eq (vs : List Value) (n : Nat) : nth vs n = vs[n]? := by
  induction vs generalizing n with
  | nil => rfl
  | cons v vs ih => cases n with
    | zero => rfl
    | succ n => rw [nth_succ, ih]; rfl
def cellOf : AObj → Nat → Option Value
  | .row cs _, o => nth cs o
  | _, _ => none
def cellsOf : AObj → Nat → Nat → Option (List Value)
  | .row cs _, o, n => if o + n ≤ cs.length then some ((cs.drop o).take n) else none
  | _, _, _ => none
def putOf (S : St) (b o : Nat) (vs : List Value) : AObj → Option St
  | .row cs k => if o + vs.length ≤ cs.length then (if vs.all storable then some (S.upd b (.row (splice cs o vs) k)) else none) else none
  | _ => none
@[simp] theorem cellOf_row (cs : List Value) (k o : Nat) : cellOf (.row cs k) o = nth cs o := rfl
@[simp] theorem cellsOf_row (cs : List Value) (k o n : Nat) : cellsOf (.row cs k) o n = if o + n ≤ cs.length then some ((cs.drop o).take n) else none := rfl
@[simp] theorem putOf_row (S : St) (b o : Nat) (vs cs : List Value) (k : Nat) : putOf S b o vs (.row cs k) = if o + vs.length ≤ cs.length then (if vs.all storable then some (S.upd b (.row (splice cs o vs) k)) else none) else none := rfl
section
variable {P : Program} {W : World} {S : St}
theorem cell_at {b : Nat} (h : W.heap.size ≤ b) (o : Nat) : S.cell W ⟨b, o, none⟩ = cellOf (S.heap b) o := by
  unfold St.cell cellOf
  rw [if_neg (by dsimp only; omega)]
  dsimp only
  cases S.heap b <;> first | rfl | exact (nth_eq _ _).symm
theorem ex_nth (vs : List Value) (i : Nat) : still P (Instr.extract (.tuple vs.toArray) i) = nth vs i := by rw [ex_tuple, nth_eq, List.getElem?_toArray]
theorem cells_at {b : Nat} (h : W.heap.size ≤ b) (o : Nat) {n : Nat} (hn : 0 < n) : S.cells W ⟨b, o, none⟩ n = cellsOf (S.heap b) o n := by
  unfold St.cells cellsOf
  rw [if_neg (by omega), if_neg (by dsimp only; omega)]
  dsimp only
  cases S.heap b <;> rfl
theorem put_at {b : Nat} (h : S.lock ≤ b) (o : Nat) {vs : List Value} (hn : 0 < vs.length) : S.put ⟨b, o, none⟩ vs = putOf S b o vs (S.heap b) := by
  unfold St.put putOf
  rw [if_neg (by omega), if_pos h]
  dsimp only
  cases S.heap b <;> rfl
theorem new_at (o : AObj) {i : Nat} (h : i ≤ S.c) (h2 : S.c ≤ i) : (S.new o).heap i = o := if_pos (Nat.le_antisymm h h2)
@[simp] theorem relock_heap (l : Nat) : (S.relock l).heap = S.heap := rfl
@[simp] theorem relock_c (l : Nat) : (S.relock l).c = S.c := rfl
@[simp] theorem relock_lock (l : Nat) : (S.relock l).lock = l := rfl
theorem relock_new (o : AObj) : ((S.relock S.c).new o).relock S.lock = S.new o := rfl
@[simp] theorem splice_nil (cs : List Value) (o : Nat) : splice cs o [] = cs := rfl
@[simp] theorem splice_cons (cs : List Value) (o : Nat) (v : Value) (vs : List Value) : splice cs o (v :: vs) = splice (cs.set o v) (o + 1) vs := rfl
@[simp] theorem cells_agg (a : Array Value) : (Value.agg a).cells = a := rfl
@[simp] theorem cells_int (k : IntKind) (i : Int) : (Value.int k i).cells = #[.int k i] := rfl
@[simp] theorem cells_bool (b : Bool) : (Value.bool b).cells = #[.bool b] := rfl
@[simp] theorem cells_string (s : ByteArray) : (Value.string s).cells = #[.string s] := rfl
@[simp] theorem cells_pointer (a : Option Addr) : (Value.pointer a).cells = #[.pointer a] := rfl
@[simp] theorem cells_slice (a : Option Addr) (n c : Nat) : (Value.slice a n c).cells = #[.slice a n c] := rfl
@[simp] theorem notJ_agg (a : Array Value) : notJ (.agg a) = true := rfl
@[simp] theorem notJ_int (k : IntKind) (i : Int) : notJ (.int k i) = true := rfl
@[simp] theorem notJ_bool (b : Bool) : notJ (.bool b) = true := rfl
@[simp] theorem notJ_string (b : ByteArray) : notJ (.string b) = true := rfl
@[simp] theorem notJ_pointer (a : Option Addr) : notJ (.pointer a) = true := rfl
@[simp] theorem notJ_slice (a : Option Addr) (n c : Nat) : notJ (.slice a n c) = true := rfl
@[simp] theorem storable_int (k : IntKind) (i : Int) : storable (.int k i) = true := rfl
@[simp] theorem storable_bool (b : Bool) : storable (.bool b) = true := rfl
@[simp] theorem storable_string (s : ByteArray) : storable (.string s) = true := rfl
@[simp] theorem storable_pointer (a : Option Addr) : storable (.pointer a) = true := rfl
@[simp] theorem storable_slice (a : Option Addr) (n c : Nat) : storable (.slice a n c) = true := rfl
theorem call_fn {C : Caller} {g : FuncId} (h : callOk P g = true) (S : St) (args : Array Value) : aCall P C S (.func (.func g) #[] #[]) args = C g args S := by
  simp only [aCall, h, if_true]
  congr 1
  simp
@[simp] theorem un_compl32 (x : Int) : aUn P .xor (.int .u32 x) = some (.int .u32 (Go.bits .xor .u32 IntKind.u32.max x)) := rfl
theorem wrap64 {x : Int} (h1 : -9223372036854775808 ≤ x) (h2 : x < 9223372036854775808) : IntKind.i64.wrap x = x := by
  have e : IntKind.i64.wrap x = if x % 18446744073709551616 ≥ 9223372036854775808 then x % 18446744073709551616 - 18446744073709551616 else x % 18446744073709551616 := by
    unfold IntKind.wrap
    rw [show IntKind.i64.signed = true from rfl, show IntKind.i64.bits = 64 from rfl]
    simp
  rw [e]
  split <;> omega
theorem wrapu64 {x : Int} (h1 : 0 ≤ x) (h2 : x < 18446744073709551616) : IntKind.u64.wrap x = x := by
  have e : IntKind.u64.wrap x = x % 18446744073709551616 := by
    unfold IntKind.wrap
    rw [show IntKind.u64.signed = false from rfl, show IntKind.u64.bits = 64 from rfl]
    simp
  rw [e]; omega
theorem wrapu32 {x : Int} (h1 : 0 ≤ x) (h2 : x < 4294967296) : IntKind.u32.wrap x = x := by
  have e : IntKind.u32.wrap x = x % 4294967296 := by
    unfold IntKind.wrap
    rw [show IntKind.u32.signed = false from rfl, show IntKind.u32.bits = 32 from rfl]
    simp
  rw [e]; omega
theorem wrapu8 {x : Int} (h1 : 0 ≤ x) (h2 : x < 256) : IntKind.u8.wrap x = x := by
  have e : IntKind.u8.wrap x = x % 256 := by
    unfold IntKind.wrap
    rw [show IntKind.u8.signed = false from rfl, show IntKind.u8.bits = 8 from rfl]
    simp
  rw [e]; omega
theorem Gd.new (h : Gd W S) {o : AObj} (ho : objLt (S.c + 1) o = true) : Gd W (S.new o) := Ext.good (Ext.new h.ok ho (D := [])) h
@[simp] theorem box_agg (a : Array Value) : aBox S (.agg a) = some (.pointer (some ⟨S.c, 0, none⟩), S.new (.row a.toList 0)) := rfl
@[simp] theorem box_int (k : IntKind) (i : Int) : aBox S (.int k i) = some (.pointer (some ⟨S.c, 0, none⟩), S.new (.row [.int k i] 0)) := rfl
@[simp] theorem box_bool (i : Bool) : aBox S (.bool i) = some (.pointer (some ⟨S.c, 0, none⟩), S.new (.row [.bool i] 0)) := rfl
@[simp] theorem box_string (i : ByteArray) : aBox S (.string i) = some (.pointer (some ⟨S.c, 0, none⟩), S.new (.row [.string i] 0)) := rfl
@[simp] theorem box_slice (x : Option Addr) (n c : Nat) : aBox S (.slice x n c) = some (.pointer (some ⟨S.c, 0, none⟩), S.new (.row [.slice x n c] 0)) := rfl
@[simp] theorem box_pointer (x : Option Addr) : aBox S (.pointer x) = some (.pointer (some ⟨S.c, 0, none⟩), S.new (.row [.pointer x] 0)) := rfl
theorem put_cons {b : Nat} (h : S.lock ≤ b) (o : Nat) (v : Value) (vs : List Value) : S.put ⟨b, o, none⟩ (v :: vs) = putOf S b o (v :: vs) (S.heap b) := put_at h o (Nat.succ_pos _)
def aggOf : Option (List Value) → Option Value
  | some l => some (.agg l.toArray)
  | none => none
@[simp] theorem aggOf_some (l : List Value) : aggOf (some l) = some (.agg l.toArray) := rfl
theorem index_arr {t e : TypeId} {m n : Nat} (h : P.underlying t = some (.array m e)) (hs : szOf P e = some n) {a : Addr} {k : IntKind} {i : Int} (h0 : 0 ≤ i) (h1 : i < m) :
    aIndexAddr P t (.pointer (some a)) (.int k i) = some (.pointer (some (a.add (i.toNat * n)))) := by
  simp only [aIndexAddr, h, hs, if_pos (And.intro h0 h1)]
theorem len_str {t : TypeId} (h : P.underlying t = some .string) (S : St) (s : ByteArray) : aLen P W S #[t] #[.string s] = some (.int .i64 s.size) := by
  have h0 : aLen P W S #[t] #[.string s] = stillF P (Builtin.len_ #[t] 0 #[.string s]) := rfl
  rw [h0]
  have : still P (Builtin.len_ #[t] 0 #[.string s]) = some (.int .i64 s.size) := by
    show still P (do match ← underlying t, (.string s : Value) with
      | .string, .string s => pure (goInt s.size)
      | .array n _, _ => pure (goInt n)
      | .pointer arr, _ => do
        let .array n _ ← underlying arr | stuck "len: pointer to array expected"
        pure (goInt n)
      | .slice _, .slice _ n _ => pure (goInt n)
      | .map _ _, .map none | .chan _ _, .chan none => pure (goInt 0)
      | .map _ _, .map (some r) => do
        let .map entries _ ← getObj r | stuck "len: map expected"
        pure (goInt entries.size)
      | .chan _ _, .chan (some r) => do
        let .chan _ buf _ _ _ timer ← getObj r | stuck "len: channel expected"
        pure (goInt (if timer then 0 else buf.size))
      | _, _ => stuck "len: string, array, pointer to array, slice, map or channel expected") = _
    rw [still_bind, still_und, h, Option.bind_some]
    rfl
  unfold stillF
  rw [this]
  rfl
end
end Go.Proofs.Yteofdikfdknpbaa.E
end
section
namespace Go.Proofs.Yteofdikfdknpbaa.E
open Go Go.RowKit
set_option linter.unusedVariables false
structure Enc (α : Type) where
  cs : α → List Value
  k : Nat
  pos : 0 < k
  len : ∀ a, (cs a).length = k
  st : ∀ a, (cs a).all storable = true
section
variable {α : Type} (T : Enc α)
def Enc.fl (l : List α) : List Value := l.flatMap T.cs
@[simp] theorem fl_nil : T.fl [] = [] := rfl
theorem fl_cons (a : α) (l : List α) : T.fl (a :: l) = T.cs a ++ T.fl l := rfl
theorem fl_app (l m : List α) : T.fl (l ++ m) = T.fl l ++ T.fl m := by unfold Enc.fl; rw [List.flatMap_append]
theorem fl_len (l : List α) : (T.fl l).length = l.length * T.k := by
  induction l with
  | nil => simp
  | cons a l ih => rw [fl_cons, List.length_append, ih, T.len, List.length_cons, Nat.add_mul]; omega
theorem fl_st (l : List α) : (T.fl l).all storable = true := by
  induction l with
  | nil => rfl
  | cons a l ih => rw [fl_cons, List.all_append, T.st, ih]; rfl
theorem fl_at : ∀ (l : List α) (i : Nat) (h : i < l.length), ((T.fl l).drop (i * T.k)).take T.k = T.cs l[i]
  | a :: l, 0, _ => by
    rw [fl_cons, Nat.zero_mul, List.drop_zero, List.take_append_of_le_length (by rw [T.len]; exact Nat.le_refl _), List.take_of_length_le (by rw [T.len]; exact Nat.le_refl _)]
    rfl
  | a :: l, i + 1, h => by
    rw [fl_cons, show (i + 1) * T.k = (T.cs a).length + i * T.k by rw [T.len, Nat.add_mul]; omega, ← List.drop_drop, List.drop_left]
    exact fl_at l i (Nat.lt_of_succ_lt_succ h)
end
section
variable {α : Type} {T : Enc α} {P : Program} {W : World} {S S' : St}
def Sl (T : Enc α) (S : St) (v : Value) (l : List α) : Prop := Own S v T.k (T.fl l)
theorem sl_nil : Sl T S (.slice none 0 0) [] := own_nil
theorem Sl.keep {v : Value} {l : List α} {D : List Nat} (h : Sl T S v l) (e : Ext D S S') (hd : ∀ i, i ∈ blkOf v → i ∉ D) (ok : Ok S) : Sl T S' v l := Own.keep h e hd ok
theorem Sl.lt {v : Value} {l : List α} (h : Sl T S v l) (ok : Ok S) : ∀ i, i ∈ blkOf v → i < S.c := by
  rcases h with ⟨rfl, h⟩ | ⟨b, n, c, pre, rfl, h1, h2, h3, h4⟩
  · intro i hi; simp [blkOf] at hi
  · intro i hi; simp [blkOf] at hi; subst hi; exact row_lt ok h2
theorem Sl.form {v : Value} {l : List α} (h : Sl T S v l) : ∃ a c, v = .slice a l.length c := by
  rcases h with ⟨rfl, h⟩ | ⟨b, n, c, pre, rfl, h1, h2, h3, h4⟩
  · have := congrArg List.length h
    rw [fl_len] at this
    have hl : l.length = 0 := by
      rcases Nat.eq_zero_or_pos l.length with h | h
      · exact h
      · have := Nat.mul_pos h T.pos; simp at *; omega
    exact ⟨none, 0, by rw [hl]⟩
  · rw [fl_len] at h3
    have := Nat.eq_of_mul_eq_mul_right T.pos h3
    exact ⟨_, c, by rw [this]⟩
theorem Sl.get {v : Value} {l : List α} (h : Sl T S v l) (g : Gd W S) (hl : 0 < l.length) :
    ∃ b o c, v = .slice (some ⟨b, o, none⟩) l.length c ∧ l.length ≤ c ∧ W.heap.size ≤ b ∧ S.lock ≤ b ∧ b < S.c ∧ S.fx W ⟨b, o, none⟩ = some T.k ∧
      (∀ i, (hi : i < l.length) → S.cells W ⟨b, o + i * T.k, none⟩ T.k = some (T.cs l[i]) ∧ ∀ j, j < T.k → S.cell W ⟨b, o + i * T.k + j, none⟩ = nth (T.cs l[i]) j) := by
  rcases h with ⟨rfl, h⟩ | ⟨b, n, c, pre, rfl, h1, h2, h3, h4⟩
  · have := congrArg List.length h
    rw [fl_len] at this
    have := Nat.mul_pos hl T.pos; simp at *; omega
  · rw [fl_len] at h3
    have hn := Nat.eq_of_mul_eq_mul_right T.pos h3
    subst hn
    have hW : W.heap.size ≤ b := Nat.le_trans g.lock h1
    have key : ∀ i, (hi : i < l.length) → ((pre ++ T.fl l).drop (pre.length + i * T.k)).take T.k = T.cs l[i] := fun i hi => by
      rw [← List.drop_drop, List.drop_left]
      exact fl_at T l i hi
    refine ⟨b, pre.length, c, rfl, h4, hW, h1, row_lt g.ok h2, fx_row hW h2, fun i hi => ⟨?_, fun j hj => ?_⟩⟩
    · rw [cells_at hW _ T.pos, h2, cellsOf_row, if_pos, key i hi]
      rw [List.length_append, fl_len]
      have := Nat.mul_le_mul_right T.k (Nat.succ_le_of_lt hi)
      rw [Nat.succ_mul] at this
      omega
    · rw [cell_at hW, h2, cellOf_row, nth_eq, nth_eq, ← key i hi, List.getElem?_take_of_lt hj, List.getElem?_drop]
theorem Sl.tail {a : α} {l : List α} {b o n c : Nat} (h : Sl T S (.slice (some ⟨b, o, none⟩) n c) (a :: l)) : Sl T S (.slice (some ⟨b, o + T.k, none⟩) (n - 1) (c - 1)) l := by
  rcases h with ⟨h0, h⟩ | ⟨b', n', c', pre, hv, h1, h2, h3, h4⟩
  · cases h0
  · obtain ⟨rfl, rfl, rfl, rfl⟩ : b = b' ∧ o = pre.length ∧ n = n' ∧ c = c' := by
      injection hv with e1 e2 e3
      injection e1 with e1
      injection e1 with e1 e4
      exact ⟨e1, e4, e2, e3⟩
    rw [fl_cons, List.length_append, T.len, fl_len] at h3
    have hn : n = l.length + 1 := Nat.eq_of_mul_eq_mul_right T.pos (by rw [h3, Nat.add_mul]; omega)
    subst hn
    refine .inr ⟨b, l.length, c - 1, pre ++ T.cs a, by rw [List.length_append, T.len]; rfl, h1, ?_, by rw [fl_len], by omega⟩
    rw [h2, fl_cons, List.append_assoc]
theorem slice_tail {t e : TypeId} (hu : P.underlying t = some (.slice e)) (hs : szOf P e = some T.k) {b o n c : Nat} (h1 : 1 ≤ n) (h2 : n ≤ c) (hf : S.fx W ⟨b, o, none⟩ = some T.k) :
    aSlice P W S t (.slice (some ⟨b, o, none⟩) n c) (some (.int .i64 1)) none none = some (.slice (some ⟨b, o + T.k, none⟩) (n - 1) (c - 1)) := by
  have hb : aBounds n c (some (.int .i64 1)) none none = some (1, n, c) := by
    have e1 : bnd (some (.int .i64 1)) 0 n = some 1 := by
      show (if (0 : Int) ≤ 1 ∧ (1 : Int) ≤ (n : Int) then some (Int.toNat 1) else none) = some 1
      rw [if_pos ⟨by omega, by omega⟩]; rfl
    have e2 : bnd none c c = some c := rfl
    simp only [aBounds, e2, if_pos h2, e1]
  have hk : T.k ≠ 0 := Nat.pos_iff_ne_zero.1 T.pos
  simp only [aSlice, isZ_none, Bool.false_eq_true, if_false, hu, hs, hf, hb]
  rw [if_pos (Or.inr trivial), if_neg (by simp), if_neg (by simp [hk]), Nat.one_mul, add_mk]
theorem Sl.append (g : Gd W S) {st xt e : TypeId} {z : Value} {by_ : Nat} (E : Elem P st e z T.k by_) {v : Value} {l new : List α} (h : Sl T S v l) {x : Value} (hx : SrcIs P W S xt T.k z x new.length (T.fl new)) (hcl : (T.fl new).all (vlt1 S.c) = true)
    (hb : (l.length + new.length + (l.length + new.length) / 4 + 512) * by_ ≤ 2 ^ 48) :
    ∃ v' S', aBuiltin P W S .append #[st, xt] #[v, x] = some (v', S') ∧ Sl T S' v' (l ++ new) ∧ Ext (blkOf v) S S' ∧ (∀ i, i ∈ blkOf v' → S.c ≤ i) := by
  obtain ⟨v', S', h1, h2, h3, h4⟩ := append_own g E h hx (fl_len T new) (fl_st T new) hcl (len := l.length) (fl_len T l) hb
  exact ⟨v', S', h1, by unfold Sl; rw [fl_app]; exact h2, h3, h4⟩
end
end Go.Proofs.Yteofdikfdknpbaa.E
end
section
namespace Go.Proofs.Yteofdikfdknpbaa.E
open Go Go.RowKit
set_option linter.unusedVariables false
section
variable {P : Program} {W : World} {S S' : St}
def Gr (S : St) (v : Value) (sz : Nat) (cs : List Value) : Prop :=
  Own S v sz cs ∨ ∃ b n, v = .slice (some ⟨b, 0, none⟩) n n ∧ S.lock ≤ b ∧ S.heap b = .row cs 0 ∧ n * sz = cs.length ∧ 0 < n
theorem Gr.keep {v : Value} {sz : Nat} {cs : List Value} {D : List Nat} (h : Gr S v sz cs) (e : Ext D S S') (hd : ∀ i, i ∈ blkOf v → i ∉ D) (ok : Ok S) : Gr S' v sz cs := by
  rcases h with h | ⟨b, n, rfl, h1, h2, h3, h4⟩
  · exact .inl (h.keep e hd ok)
  · exact .inr ⟨b, n, rfl, by rw [e.lock]; exact h1, by rw [e.same b (row_lt ok h2) (hd b (by simp [blkOf]))]; exact h2, h3, h4⟩
theorem Gr.lt {v : Value} {sz : Nat} {cs : List Value} (h : Gr S v sz cs) (ok : Ok S) : ∀ i, i ∈ blkOf v → i < S.c := by
  rcases h with (⟨rfl, h⟩ | ⟨b, n, c, pre, rfl, h1, h2, h3, h4⟩) | ⟨b, n, rfl, h1, h2, h3, h4⟩ <;> intro i hi <;> simp [blkOf] at hi <;> subst hi <;> exact row_lt ok h2
theorem Gr.form {v : Value} {sz : Nat} {cs : List Value} (h : Gr S v sz cs) (hp : 0 < sz) {n : Nat} (hn : n * sz = cs.length) : ∃ a c, v = .slice a n c := by
  rcases h with (⟨rfl, rfl⟩ | ⟨b, m, c, pre, rfl, h1, h2, h3, h4⟩) | ⟨b, m, rfl, h1, h2, h3, h4⟩
  · have : n = 0 := by
      rcases Nat.eq_zero_or_pos n with h | h
      · exact h
      · have := Nat.mul_pos h hp; simp at hn; omega
    exact ⟨none, 0, by rw [this]⟩
  · exact ⟨_, c, by rw [Nat.eq_of_mul_eq_mul_right hp (h3.trans hn.symm)]⟩
  · have := Nat.eq_of_mul_eq_mul_right hp (h3.trans hn.symm)
    exact ⟨_, m, by rw [← this]⟩
theorem Gr.get {v : Value} {sz : Nat} {cs : List Value} (h : Gr S v sz cs) (g : Gd W S) (hp : 0 < sz) {n : Nat} (hn : n * sz = cs.length) (h0 : 0 < n) :
    ∃ b o c, v = .slice (some ⟨b, o, none⟩) n c ∧ W.heap.size ≤ b ∧ (∀ j, j < cs.length → S.cell W ⟨b, o + j, none⟩ = cs[j]?) ∧ (∀ j m, 0 < m → j + m ≤ cs.length → S.cells W ⟨b, o + j, none⟩ m = some ((cs.drop j).take m)) := by
  rcases h with (⟨rfl, rfl⟩ | ⟨b, m, c, pre, rfl, h1, h2, h3, h4⟩) | ⟨b, m, rfl, h1, h2, h3, h4⟩
  · have := Nat.mul_pos h0 hp; simp at hn; omega
  · have := Nat.eq_of_mul_eq_mul_right hp (h3.trans hn.symm)
    subst this
    have hW : W.heap.size ≤ b := Nat.le_trans g.lock h1
    refine ⟨b, pre.length, c, rfl, hW, fun j hj => ?_, fun j m h0 hj => ?_⟩
    · rw [cell_at hW, h2, cellOf_row, nth_eq, List.getElem?_append_right (by omega)]
      congr 1; omega
    · rw [cells_at hW _ h0, h2, cellsOf_row, if_pos (by rw [List.length_append]; omega), ← List.drop_drop, List.drop_left]
  · have := Nat.eq_of_mul_eq_mul_right hp (h3.trans hn.symm)
    subst this
    have hW : W.heap.size ≤ b := Nat.le_trans g.lock h1
    refine ⟨b, 0, m, rfl, hW, fun j hj => ?_, fun j m h0 hj => ?_⟩
    · rw [cell_at hW, h2, cellOf_row, nth_eq, Nat.zero_add]
    · rw [cells_at hW _ h0, h2, cellsOf_row, Nat.zero_add, if_pos hj]
theorem append_gr (g : Gd W S) {st xt e : TypeId} {z : Value} {sz by_ : Nat} (E : Elem P st e z sz by_) {v : Value} {cs : List Value} (h : Gr S v sz cs) {x : Value} {n : Nat} {new : List Value} (hx : SrcIs P W S xt sz z x n new) (hn : new.length = n * sz) (hst : new.all storable = true) (hcl : new.all (vlt1 S.c) = true)
    {len : Nat} (hl : cs.length = len * sz) (hb : (len + n + (len + n) / 4 + 512) * by_ ≤ 2 ^ 48) :
    ∃ v' S', aBuiltin P W S .append #[st, xt] #[v, x] = some (v', S') ∧ Gr S' v' sz (cs ++ new) ∧ Ext (blkOf v) S S' ∧ (∀ i, i ∈ blkOf v' → i ∈ blkOf v ∨ S.c ≤ i) := by
  rcases h with h | ⟨b, m, rfl, h1, h2, h3, h4⟩
  · obtain ⟨v', S', a1, a2, a3, a4⟩ := append_own g E h hx hn hst hcl hl hb
    exact ⟨v', S', a1, .inl a2, a3, fun i hi => .inr (a4 i hi)⟩
  · obtain ⟨ie, i1, i2, i3, i4⟩ := E.info
    have hx : srcOf P W S xt ie.size z x = some (n, new) := by rw [i3]; exact hx
    have hcond : z.cells.size = ie.size ∧ 0 < ie.size ∧ 0 < ie.bytes ∧ flat z = true := ⟨E.zsz.trans i3.symm, by rw [i3]; exact E.pos, by rw [i4]; exact E.bpos, E.flat⟩
    have hm : m = len := Nat.eq_of_mul_eq_mul_right E.pos (h3.trans hl)
    subst hm
    have hW : W.heap.size ≤ b := Nat.le_trans g.lock h1
    have hfx : S.fx W ⟨b, 0, none⟩ = some 0 := fx_row hW h2
    have a0 : (#[Value.slice (some ⟨b, 0, none⟩) m m, x] : Array Value)[0]? = some (.slice (some ⟨b, 0, none⟩) m m) := rfl
    have a1 : (#[Value.slice (some ⟨b, 0, none⟩) m m, x] : Array Value)[1]? = some x := rfl
    have hput : S.put ((⟨b, 0, none⟩ : Addr).add (m * ie.size)) [] = some S := rfl
    by_cases h0 : n = 0
    · subst h0
      have : new = [] := List.eq_nil_of_length_eq_zero (by rw [hn]; omega)
      subst this
      refine ⟨.slice (some ⟨b, 0, none⟩) m m, S, ?_, by rw [List.append_nil]; exact .inr ⟨b, m, rfl, h1, h2, h3, h4⟩, Ext.refl g.ok, fun i hi => .inl hi⟩
      show aAppend P W S #[st, xt] #[.slice (some ⟨b, 0, none⟩) m m, x] = _
      unfold aAppend
      simp only [a0, a1, List.getElem?_toArray, List.getElem?_cons_zero, List.getElem?_cons_succ, E.und, i1, i2, if_pos hcond, hx]
      rw [if_pos (by rw [i4]; exact hb)]
      rw [if_neg (by rw [isZ_none]; exact Bool.false_ne_true)]
      simp only [hfx, hput]
      rw [if_pos (by omega)]
      rfl
    · have hcells : S.cells W ⟨b, 0, none⟩ (m * ie.size) = some cs := by
        rw [i3, h3]; exact cells_all hW h2
      refine ⟨.slice (some ⟨S.c, 0, none⟩) (m + n) (m + n), S.new (.row (cs ++ new) ie.size), ?_, .inl (.inr ⟨S.c, m + n, m + n, [], rfl, g.ok.1, by rw [new_self, i3]; rfl, by rw [Nat.add_mul, List.length_append, ← hn, h3], Nat.le_refl _⟩), Ext.new g.ok (objLt_mono (Nat.le_succ _) (by have hr := g.cl b (row_lt g.ok h2); rw [h2] at hr; rw [objLt_row] at hr ⊢; rw [List.all_append, hr, hcl]; rfl)), fun i hi => by simp [blkOf] at hi; omega⟩
      show aAppend P W S #[st, xt] #[.slice (some ⟨b, 0, none⟩) m m, x] = _
      unfold aAppend
      simp only [a0, a1, List.getElem?_toArray, List.getElem?_cons_zero, List.getElem?_cons_succ, E.und, i1, i2, if_pos hcond, hx]
      rw [if_pos (by rw [i4]; exact hb)]
      rw [if_neg (by rw [isZ_none]; exact Bool.false_ne_true)]
      simp only [hfx, hcells]
      rw [if_neg (by omega)]
end
end Go.Proofs.Yteofdikfdknpbaa.E
end
section
namespace Go.Proofs.Yteofdikfdknpbaa.E
open Go Go.RowKit
set_option linter.unusedVariables false
section
variable {β : Type}
def Wp (o : Option β) (Q : β → Prop) : Prop := ∃ b, o = some b ∧ Q b
theorem Wp.ret {b : β} {Q : β → Prop} (h : Q b) : Wp (some b) Q := ⟨b, rfl, h⟩
theorem Wp.of {o : Option β} {b : β} {Q : β → Prop} (e : o = some b) (h : Q b) : Wp o Q := ⟨b, e, h⟩
theorem Wp.mono {o : Option β} {Q R : β → Prop} (h : Wp o Q) (hq : ∀ b, Q b → R b) : Wp o R := by obtain ⟨b, e, q⟩ := h; exact ⟨b, e, hq b q⟩
theorem Wp.bS {o : Option (Value × St)} {k : Value → St → Option β} {Q : β → Prop} (h : Wp o fun r => Wp (k r.1 r.2) Q) : Wp (bindS o k) Q := by
  obtain ⟨⟨v, S⟩, rfl, q⟩ := h; exact q
theorem Wp.get {o : Option β} {Q : β → Prop} (h : Wp o Q) : ∃ b, o = some b ∧ Q b := h
theorem bindO_bindO {x : Out} {k : Exit → Act → St → Out} {K : Exit → Act → St → Option β} : bindO (bindO x k) K = bindO x fun e A S => bindO (k e A S) K := by
  unfold bindO; cases x with
  | none => rfl
  | some r => rfl
theorem bindO_bindS {x : Option (Value × St)} {k : Value → St → Out} {K : Exit → Act → St → Option β} : bindO (bindS x k) K = bindS x fun v S => bindO (k v S) K := by
  unfold bindO bindS; cases x with
  | none => rfl
  | some r => rfl
end
section
variable {P : Program} {W : World} {S S' : St} {β : Type}
theorem Wp.append (g : Gd W S) {st xt e : TypeId} {z : Value} {sz by_ : Nat} (E : Elem P st e z sz by_) {v : Value} {cs : List Value} (h : Gr S v sz cs) {x : Value} {n : Nat} {new : List Value} (hx : SrcIs P W S xt sz z x n new) (hn : new.length = n * sz) (hst : new.all storable = true) (hcl : new.all (vlt1 S.c) = true)
    {len : Nat} (hl : cs.length = len * sz) (hb : (len + n + (len + n) / 4 + 512) * by_ ≤ 2 ^ 48) {k : Value → St → Option β} {Q : β → Prop}
    (K : ∀ v' S', Gd W S' → Gr S' v' sz (cs ++ new) → Ext (blkOf v) S S' → (∀ i, i ∈ blkOf v' → i ∈ blkOf v ∨ S.c ≤ i) → Wp (k v' S') Q) : Wp (bindS (aBuiltin P W S .append #[st, xt] #[v, x]) k) Q := by
  obtain ⟨v', S', a1, a2, a3, a4⟩ := append_gr g E h hx hn hst hcl hl hb
  rw [a1]
  exact K v' S' (a3.good g) a2 a3 a4
theorem Wp.grow {α : Type} {T : Enc α} (g : Gd W S) {st xt e : TypeId} {z : Value} {by_ : Nat} (E : Elem P st e z T.k by_) {v : Value} {l new : List α} (h : Sl T S v l) {x : Value} (hx : SrcIs P W S xt T.k z x new.length (T.fl new)) (hcl : (T.fl new).all (vlt1 S.c) = true)
    (hb : (l.length + new.length + (l.length + new.length) / 4 + 512) * by_ ≤ 2 ^ 48) {k : Value → St → Option β} {Q : β → Prop}
    (K : ∀ v' S', Gd W S' → Sl T S' v' (l ++ new) → Ext (blkOf v) S S' → (∀ i, i ∈ blkOf v' → S.c ≤ i) → Wp (k v' S') Q) : Wp (bindS (aBuiltin P W S .append #[st, xt] #[v, x]) k) Q := by
  obtain ⟨v', S', a1, a2, a3, a4⟩ := Sl.append g E h hx hcl hb
  rw [a1]
  exact K v' S' (a3.good g) a2 a3 a4
theorem src_made {st e : TypeId} (hu : P.underlying st = some (.slice e)) {sz : Nat} {z : Value} {n : Nat} (g : Gd W S) {l : List Value} (hl : l.length = n * sz) (hp : 0 < n * sz) (k : Nat) : SrcIs P W (S.new (.row l k)) st sz z (.slice (some ⟨S.c, 0, none⟩) n n) n l :=
  src_slice hu (fun k => by simp) (by rw [cells_at g.n _ hp, new_self, cellsOf_row, if_pos (by omega), List.drop_zero, List.take_of_length_le (by omega)])
theorem Ext.pre {D : List Nat} (h : Ok S) {o : AObj} (ho : objLt (S.c + 1) o = true) (k : Ext D (S.new o) S') : Ext D S S' := (Ext.new h ho (D := D)).trans k fun _ hi _ => hi
theorem Ext.set {S0 : St} {D : List Nat} (h : Ext D S0 S) {i : Nat} (hi : i < S.c) {o : AObj} (ho : objLt S.c o = true) {X : List Nat} (hX : ∀ j, j ∈ D → j ∈ X) (hi2 : i < S0.c → i ∈ X) : Ext X S0 (S.upd i o) :=
  (h.mono hX).trans (Ext.upd h.ok hi ho) fun j hj hc => by simp at hj; subst hj; exact hi2 hc
theorem relock_back (l : Nat) : (S.relock l).relock S.lock = S := rfl
theorem nd {x : Nat} {a b : List Nat} : (x :: (a ++ b)).Nodup ↔ x ∉ a ∧ x ∉ b ∧ a.Nodup ∧ b.Nodup ∧ ∀ y, y ∈ a → y ∉ b := by
  simp only [List.nodup_cons, List.mem_append, List.nodup_append, not_or]
  constructor
  · rintro ⟨⟨h1, h2⟩, h3, h4, h5⟩; exact ⟨h1, h2, h3, h4, fun y hy hb => h5 y hy y hb rfl⟩
  · rintro ⟨h1, h2, h3, h4, h5⟩; exact ⟨⟨h1, h2⟩, h3, h4, fun y hy z hz e => h5 y hy (e ▸ hz)⟩
theorem new_lo (o : AObj) {i : Nat} (h : i < S.c) : (S.new o).heap i = S.heap i := if_neg (by omega)
theorem upd_lo (o : AObj) {i j : Nat} (h : j ≠ i) : (S.upd i o).heap j = S.heap j := if_neg h
theorem pos1 (n : Nat) : (0 < n + 1) = True := by simp
theorem cast1 : ((1 : Nat) : Int) = 1 := rfl
theorem cast0 : ((0 : Nat) : Int) = 0 := rfl
theorem new_upd (o o' : AObj) {i : Nat} (h : i ≤ S.c) (h2 : S.c ≤ i) : (S.new o).upd i o' = S.new o' := by
  obtain rfl : i = S.c := Nat.le_antisymm h h2
  unfold St.upd St.new
  congr 1
  funext j
  dsimp only
  by_cases h : j = S.c
  · rw [if_pos h, if_pos h]
  · rw [if_neg h, if_neg h, if_neg h]
theorem Gr.new {v : Value} {sz : Nat} {cs : List Value} (h : Gr S v sz cs) (ok : Ok S) {o : AObj} (ho : objLt (S.c + 1) o = true) : Gr (S.new o) v sz cs := h.keep (Ext.new ok ho (D := [])) (fun _ _ => by simp) ok
theorem Sl.new {α : Type} {T : Enc α} {v : Value} {l : List α} (h : Sl T S v l) (ok : Ok S) {o : AObj} (ho : objLt (S.c + 1) o = true) : Sl T (S.new o) v l := h.keep (Ext.new ok ho (D := [])) (fun _ _ => by simp) ok
end
end Go.Proofs.Yteofdikfdknpbaa.E
end
section
namespace Go.Proofs.Yteofdikfdknpbaa.E
open Go Go.RowKit
set_option linter.unusedVariables false
section
variable {P : Program}
end
end Go.Proofs.Yteofdikfdknpbaa.E
end
section
namespace Go.Proofs.Yteofdikfdknpbaa.E
open Go Go.RowKit Go.Deep Go.ChangeShapes Go.WideShapes
set_option linter.unusedVariables false
section
variable {P : Program} {W : World} {S : St} {α : Type} {T : Enc α}
theorem flat0_old {v : Value} (h : flat0 v = true) : oldV W v = true := by
  unfold oldV
  split
  · cases h
  · cases h
  · cases h
  · exact h
def OldSl (T : Enc α) (W : World) (v : Value) (l : List α) : Prop :=
  (v = .slice none 0 0 ∧ l = []) ∨ ∃ b o c, v = .slice (some ⟨b, o, none⟩) l.length c ∧ b < W.heap.size ∧ l.length ≤ c ∧ ∀ j, (h : j < l.length) → ∀ i, i < T.k → W.cell? ⟨b, o + j * T.k + i, none⟩ = nth (T.cs l[j]) i
theorem OldSl.old {v : Value} {l : List α} (h : OldSl T W v l) : oldArg W v = true := by
  rcases h with ⟨rfl, _⟩ | ⟨b, o, c, rfl, h1, _⟩
  · rfl
  · exact decide_eq_true h1
theorem OldSl.form {v : Value} {l : List α} (h : OldSl T W v l) : ∃ a c, v = .slice a l.length c := by
  rcases h with ⟨rfl, rfl⟩ | ⟨b, o, c, rfl, _⟩
  · exact ⟨none, 0, rfl⟩
  · exact ⟨_, c, rfl⟩
theorem oldCells_nth {a : Addr} {l : List Value} (hf : l.all flat0 = true) (h : ∀ i, i < l.length → W.cell? (a.add i) = nth l i) : ∀ (m k : Nat), m + k = l.length → oldCells W a k m = some (l.drop k)
  | 0, k, hk => by rw [List.drop_eq_nil_of_le (by omega)]; rfl
  | m + 1, k, hk => by
    have hlt : k < l.length := by omega
    rw [oldCells, h k hlt, nth_eq, List.getElem?_eq_getElem hlt]
    dsimp only
    rw [getV_old (flat0_old (List.all_eq_true.1 hf _ (List.getElem_mem hlt))), oldCells_nth hf h m (k + 1) (by omega)]
    dsimp only
    rw [List.drop_eq_getElem_cons hlt]
theorem OldSl.get (hf : ∀ a, (T.cs a).all flat0 = true) {v : Value} {l : List α} (h : OldSl T W v l) (hl : 0 < l.length) :
    ∃ b o c, v = .slice (some ⟨b, o, none⟩) l.length c ∧ l.length ≤ c ∧ b < W.heap.size ∧ (∀ S : St, S.fx W ⟨b, o, none⟩ = some 0) ∧
      ∀ (S : St) (j : Nat) (hj : j < l.length), S.cells W ⟨b, o + j * T.k, none⟩ T.k = some (T.cs l[j]) ∧ ∀ i, i < T.k → S.cell W ⟨b, o + j * T.k + i, none⟩ = nth (T.cs l[j]) i := by
  rcases h with ⟨rfl, rfl⟩ | ⟨b, o, c, rfl, h1, h2, h3⟩
  · simp at hl
  · refine ⟨b, o, c, rfl, h2, h1, fun S => fx_old h1, fun S j hj => ⟨?_, fun i hi => ?_⟩⟩
    · have hk := T.pos
      unfold St.cells
      rw [if_neg (by omega), if_pos h1]
      have := oldCells_nth (W := W) (a := ⟨b, o + j * T.k, none⟩) (hf l[j]) (fun i hi => by rw [add_mk]; exact h3 j hj i (by rw [← T.len]; exact hi)) T.k 0 (by rw [T.len]; rfl)
      rw [List.drop_zero] at this
      exact this
    · unfold St.cell
      rw [if_pos h1, h3 j hj i hi, nth_eq, List.getElem?_eq_getElem (by rw [T.len]; exact hi)]
      dsimp only
      rw [getV_old (flat0_old (List.all_eq_true.1 (hf l[j]) _ (List.getElem_mem _)))]
def Rf (P : Program) (t : TypeId) (enc' : α → List Value) (right : α → Prop) : Prop :=
  ∀ {H : Type} (enc : TypeId × Value → H) (w : World) (base : Nat) (spare : Nat → Bool) (held : Bool) (fuel : Nat) (cs : List Value) (y : DataW H × List MemPlace),
    DataW.trod enc P w base spare held fuel t cs = some y → (∀ n ∈ y.1.weights P t, n ≤ reachBytes) → ∃ x, cs = enc' x ∧ right x
theorem Rf.int {t : TypeId} {k : IntKind} (ht : P.underlying t = some (.int k)) : Rf P t (fun n : Int => [.int k n]) (fun n => (Lit.int k n).wf = true) := by
  intro H enc w base spare held fuel cs y h _
  cases fuel with
  | zero => simp [DataW.trod] at h
  | succ n =>
    unfold DataW.trod at h
    rw [ht] at h
    match cs, h with
    | [.int k' m], h =>
      dsimp only at h
      split at h
      · rename_i hc
        obtain ⟨rfl, hw⟩ := hc
        exact ⟨m, rfl, hw⟩
      · cases h
theorem Rf.bool {t : TypeId} (ht : P.underlying t = some .bool) : Rf P t (fun b : Bool => [.bool b]) (fun _ => True) := by
  intro H enc w base spare held fuel cs y h _
  cases fuel with
  | zero => simp [DataW.trod] at h
  | succ n =>
    unfold DataW.trod at h
    rw [ht] at h
    match cs, h with
    | [.bool b], h => exact ⟨b, rfl, trivial⟩
theorem Rf.string {t : TypeId} (ht : P.underlying t = some .string) : Rf P t (fun s : ByteArray => [.string s]) (fun s => s.size ≤ 140737488351232) := by
  intro H enc w base spare held fuel cs y h hw
  cases fuel with
  | zero => simp [DataW.trod] at h
  | succ n =>
    unfold DataW.trod at h
    rw [ht] at h
    match cs, h with
    | [.string s], h =>
      dsimp only at h
      split at h
      · injection h with h
        subst h
        refine ⟨s, rfl, ?_⟩
        have := hw s.data.toList.length (by simp [DataW.weights])
        rw [Array.length_toList] at this
        exact this
      · cases h
theorem weightsAll_mem {H : Type} {e : TypeId} : ∀ {l : List (DataW H)} {d : DataW H}, d ∈ l → ∀ n ∈ d.weights P e, n ∈ DataW.weightsAll P e l
  | a :: r, d, hd, n, hn => by
    simp only [DataW.weightsAll, List.mem_append]
    rcases List.mem_cons.1 hd with rfl | hd
    · exact .inl hn
    · exact .inr (weightsAll_mem hd n hn)
theorem rd_struct {H : Type} {enc : TypeId × Value → H} {w : World} {base : Nat} {spare : Nat → Bool} {held : Bool} {t : TypeId} {fs : Array Field} {fuel : Nat} {cs : List Value} {y : DataW H × List MemPlace}
    (ht : P.underlying t = some (.struct fs)) (h : DataW.trod enc P w base spare held fuel t cs = some y) (hw : ∀ n ∈ y.1.weights P t, n ≤ reachBytes) :
    cs.length = P.cellsOf t ∧ ∃ n, ∀ (i : Nat) (f : Field), fs[i]? = some f → ∃ z : DataW H × List MemPlace, DataW.trod enc P w base spare held n f.type ((cs.drop f.offset).take (P.cellsOf f.type)) = some z ∧ ∀ m ∈ z.1.weights P f.type, m ≤ reachBytes := by
  obtain ⟨xs, n, _, rfl, hl, hlen, hf⟩ := DataW.trod_struct ht h
  refine ⟨hl, n, fun i f hi => ?_⟩
  have hlt : i < xs.length := by rw [hlen]; exact (Array.getElem?_eq_some_iff.1 hi).1
  refine ⟨xs[i], by rw [hf i f hi, List.getElem?_eq_getElem hlt], fun m hm => hw m ?_⟩
  simp only [DataW.weights, ht]
  exact DataW.weights_mem_each (j := i) (t := f.type) (by rw [List.getElem?_map, Array.getElem?_toList, hi]; rfl) (by rw [List.getElem?_map, List.getElem?_eq_getElem hlt]; rfl) m hm
theorem weights_at {H : Type} {ts : List TypeId} {ds : List (DataW H)} (h : (DataW.weightsEach P ts ds).all (· ≤ reachBytes) = true) {j : Nat} {t : TypeId} {d : DataW H} (ht : ts[j]? = some t) (hd : ds[j]? = some d) :
    ∀ n ∈ d.weights P t, n ≤ reachBytes := fun n hn => of_decide_eq_true (List.all_eq_true.1 h n (DataW.weights_mem_each ht hd n hn))
@[simp] theorem min_int (t u : TypeId) (a b : Int) : aBuiltin P W S .min #[t, u] #[.int .i64 a, .int .i64 b] = some (.int .i64 (if b < a then b else a), S) := by kernel_rfl
@[simp] theorem max_int (t u : TypeId) (a b : Int) : aBuiltin P W S .max #[t, u] #[.int .i64 a, .int .i64 b] = some (.int .i64 (if a < b then b else a), S) := by kernel_rfl
end
end Go.Proofs.Yteofdikfdknpbaa.E
end
section
namespace Go.Proofs.Yteofdikfdknpbaa.E
open Go Go.RowKit Go.Deep Go.ChangeShapes Go.WideShapes
set_option linter.unusedVariables false
section
variable {H : Type} {enc : TypeId × Value → H}
end
end Go.Proofs.Yteofdikfdknpbaa.E
end
section
namespace Go.Proofs.Yteofdikfdknpbaa.E
open Go Go.RowKit
set_option linter.unusedVariables false
theorem nat_lt_id {a b : Nat} (h : a < b) : a < b := h
theorem nat_le_id {a b : Nat} (h : a ≤ b) : a ≤ b := h
theorem nat_ne_id {a b : Nat} (h : a ≠ b) : a ≠ b := h
theorem int_lt_id {a b : Int} (h : a < b) : a < b := h
theorem int_le_id {a b : Int} (h : a ≤ b) : a ≤ b := h
theorem Low.rfl' (S : St) : Low S S := ⟨rfl, Nat.le_refl _, fun _ _ => rfl⟩
theorem Low.new {S T : St} (h : Low S T) (o : AObj) : Low S (T.new o) := ⟨h.1, Nat.le_succ_of_le h.2.1, fun i hi => (if_neg (by have := h.2.1; omega)).trans (h.2.2 i hi)⟩
theorem Low.upd {S T : St} {i : Nat} (h : Low S T) (hi : S.c ≤ i) (o : AObj) : Low S (T.upd i o) := ⟨h.1, h.2.1, fun j hj => (if_neg (by omega)).trans (h.2.2 j hj)⟩
theorem Low.trans {S T U : St} (h : Low S T) (k : Low T U) : Low S U := ⟨k.1.trans h.1, Nat.le_trans h.2.1 k.2.1, fun i hi => (k.2.2 i (Nat.lt_of_lt_of_le hi h.2.1)).trans (h.2.2 i hi)⟩
theorem Low.relock {S T : St} {l : Nat} (h : Low (S.relock l) T) : Low S (T.relock S.lock) := ⟨rfl, h.2.1, h.2.2⟩
theorem Low.lower {S T : St} {o : AObj} (h : Low (S.new o) T) : Low S T := (Low.new (Low.rfl' S) o).trans h
theorem Gd.ext {W : World} {S S' : St} (g : Gd W S) (h : Ext [] S S') : Gd W S' := h.good g
theorem Gd.upd {W : World} {S : St} (g : Gd W S) {i : Nat} (hi : i < S.c) {o : AObj} (ho : objLt S.c o = true) : Gd W (S.upd i o) := (Ext.upd g.ok hi ho).good g
section
variable {β : Type} {P : Program} {W : World} {S S' : St}
theorem gcR_some {args : List Value} {v : Value} (hf : flatR v = true) (hl : Low S S') (hc : Cl S) (ha : args.all (vlt S.c) = true) : gcR args.toArray S (some (v, S')) = some (v, S) := by
  unfold gcR
  exact if_pos ⟨hf, hl, hc, by simpa using ha⟩
theorem gcR_wp {args : List Value} {v : Value} {o : Option (Value × St)} (g : Gd W S) (ha : args.all (vlt S.c) = true) (hf : flatR v = true) (h : Wp o fun r => r.1 = v ∧ Low S r.2) : gcR args.toArray S o = some (v, S) := by
  obtain ⟨⟨v', S'⟩, rfl, rfl, h2⟩ := h
  exact gcR_some hf h2 g.cl ha
theorem Wp.leaf {v v' : Value} (hv : v' = v) (hl : Low S S') : Wp (some (v', S')) fun r => r.1 = v ∧ Low S r.2 := ⟨_, rfl, hv, hl⟩
theorem Wp.cond {b : Bool} {t e : Option β} {Q : β → Prop} (h1 : b = true → Wp t Q) (h2 : b = false → Wp e Q) : Wp (condK (.bool b) t e) Q := by
  cases b
  · exact h2 rfl
  · exact h1 rfl
@[simp] theorem flatR_int (k : IntKind) (i : Int) : flatR (.int k i) = true := rfl
@[simp] theorem flatR_bool (b : Bool) : flatR (.bool b) = true := rfl
@[simp] theorem flatR_string (b : ByteArray) : flatR (.string b) = true := rfl
@[simp] theorem flatR_tuple (l : List Value) : flatR (.tuple l.toArray) = l.all flat := by simp [flatR]
@[simp] theorem flatR_agg (l : List Value) : flatR (.agg l.toArray) = l.all flat0 := by simp [flatR, flat]
noncomputable def condB (q : Prop) (t e : Option β) : Option β := @ite _ q (Classical.propDecidable q) t e
@[congr] theorem condB_congr {q q' : Prop} {t t' e e' : Option β} (h : q = q') (h1 : q' → t = t') (h2 : ¬ q' → e = e') : condB q t e = condB q' t' e' := by
  subst h
  unfold condB
  by_cases hq : q
  · rw [if_pos hq, if_pos hq, h1 hq]
  · rw [if_neg hq, if_neg hq, h2 hq]
theorem condK_B (b : Bool) (t e : Option β) : condK (.bool b) t e = condB (b = true) t e := by
  unfold condB
  cases b
  · rw [if_neg Bool.false_ne_true]; rfl
  · rw [if_pos rfl]; rfl
theorem condB_pos {q : Prop} (h : q) (t e : Option β) : condB q t e = t := if_pos h
theorem condB_neg {q : Prop} (h : ¬ q) (t e : Option β) : condB q t e = e := if_neg h
@[simp] theorem condB_true (t e : Option β) : condB True t e = t := if_pos trivial
@[simp] theorem condB_false (t e : Option β) : condB False t e = e := if_neg not_false
theorem gcR_B {args : Array Value} {q : Prop} {a b : Option (Value × St)} : gcR args S (condB q a b) = condB q (gcR args S a) (gcR args S b) := by
  by_cases h : q
  · rw [condB_pos h, condB_pos h]
  · rw [condB_neg h, condB_neg h]
theorem bindO_B {γ : Type} (q : Prop) (a b : Out) (k : Exit → Act → St → Option γ) : bindO (condB q a b) k = condB q (bindO a k) (bindO b k) := by
  by_cases h : q
  · rw [condB_pos h, condB_pos h]
  · rw [condB_neg h, condB_neg h]
theorem gV_t (b : Bool) (k : Bool → Option β) : gV (.bool b) true k = k b := by cases b <;> rfl
theorem gV_f (b : Bool) (k : Bool → Option β) : gV (.bool b) false k = k (!b) := by cases b <;> rfl
theorem wO_val (g : Bool) (v : Value) : wO g (some v) = some (wV g v) := by cases g <;> rfl
theorem wS_val (g : Bool) (S : St) (v : Value) : wS g S (some (v, S)) = some (wV g v, S) := by cases g <;> rfl
theorem wV_pos {g : Bool} (h : IsT g) (v : Value) : wV g v = v := by
  have h : g = true := h
  subst h
  rfl
theorem IsT.left {b c : Bool} (h : IsT (b && c)) : IsT b := by unfold IsT at *; simp at h; exact h.1
theorem gV_wt (b c : Bool) (k : Bool → Option β) : gV (wV b (.bool c)) true k = k (b && c) := by cases b <;> cases c <;> rfl
theorem gV_wf (b c : Bool) (k : Bool → Option β) : gV (wV b (.bool c)) false k = k (b && !c) := by cases b <;> cases c <;> rfl
theorem wV_wV (b : Bool) (v : Value) : wV b (wV b v) = wV b v := by cases b <;> rfl
theorem wV_and {b : Bool} (h : IsT b) (c : Bool) (v : Value) : wV (b && c) v = wV c v := by
  have h : b = true := h
  subst h
  rfl
theorem pick_and (b c : Bool) : aPick (.bool b) (wV b (.bool c)) (.bool false) = some (.bool (b && c)) := by cases b <;> rfl
theorem pick_or (b c : Bool) : aPick (.bool b) (.bool true) (wV (!b) (.bool c)) = some (.bool (b || c)) := by cases b <;> rfl
theorem pick_int (b : Bool) (k : IntKind) (x y : Int) : aPick (.bool b) (.int k x) (.int k y) = some (.int k (if b then x else y)) := by cases b <;> rfl
theorem pick_bool (b x y : Bool) : aPick (.bool b) (.bool x) (.bool y) = some (.bool (if b then x else y)) := by cases b <;> rfl
end
@[simp] theorem flat_int (k : IntKind) (i : Int) : flat (.int k i) = true := rfl
@[simp] theorem flat_bool (b : Bool) : flat (.bool b) = true := rfl
@[simp] theorem flat_string (b : ByteArray) : flat (.string b) = true := rfl
@[simp] theorem flat_agg (l : List Value) : flat (.agg l.toArray) = l.all flat0 := by simp [flat]
@[simp] theorem flat0_int (k : IntKind) (i : Int) : flat0 (.int k i) = true := rfl
@[simp] theorem flat0_bool (b : Bool) : flat0 (.bool b) = true := rfl
@[simp] theorem flat0_string (b : ByteArray) : flat0 (.string b) = true := rfl
theorem and_nat (n m : Nat) (hn : n < 4294967296) (hm : m < 4294967296) : Go.bits .and .u32 (n : Int) (m : Int) = ((n &&& m : Nat) : Int) := by
  have h : n &&& m < 4294967296 := Nat.lt_of_le_of_lt Nat.and_le_left hn
  unfold Go.bits
  show IntKind.u32.wrap _ = _
  have e : (BitVec.ofInt 32 (n : Int) &&& BitVec.ofInt 32 (m : Int)).toNat = n &&& m := by
    rw [BitVec.toNat_and, BitVec.ofInt_natCast, BitVec.ofInt_natCast, BitVec.toNat_ofNat, BitVec.toNat_ofNat, Nat.mod_eq_of_lt (by omega), Nat.mod_eq_of_lt (by omega)]
  rw [wrapu32 (by omega) (by show ((BitVec.ofInt 32 (n : Int) &&& BitVec.ofInt 32 (m : Int)).toNat : Int) < _; omega)]
  exact congrArg _ e
theorem mask63 (n : Nat) (hn : n < 4294967296) : Go.bits .and .u32 (n : Int) 63 = ((n % 64 : Nat) : Int) := by
  have := and_nat n 63 hn (by omega)
  rw [show ((63 : Nat) : Int) = 63 from rfl] at this
  rw [this, show 63 = 2 ^ 6 - 1 from rfl, Nat.and_two_pow_sub_one_eq_mod]
section
variable {α : Type} {T : Enc α} {P : Program} {W : World} {S S' : St}
def Rd (T : Enc α) (W : World) (S : St) (v : Value) (l : List α) : Prop :=
  vlt1 S.c v = true ∧ ((∃ a c, v = .slice a 0 c ∧ l = []) ∨
  ∃ b o c, v = .slice (some ⟨b, o, none⟩) l.length c ∧ l.length ≤ c ∧ 0 < l.length ∧ b < S.c ∧ (S.fx W ⟨b, o, none⟩ = some 0 ∨ S.fx W ⟨b, o, none⟩ = some T.k) ∧ (b < W.heap.size → S.fx W ⟨b, o, none⟩ = some 0) ∧
    ∀ j, (hj : j < l.length) → S.cells W ⟨b, o + j * T.k, none⟩ T.k = some (T.cs l[j]) ∧ ∀ i, i < T.k → S.cell W ⟨b, o + j * T.k + i, none⟩ = nth (T.cs l[j]) i)
theorem cells_same {a : Addr} {n : Nat} (h : S'.heap a.block = S.heap a.block) : S'.cells W a n = S.cells W a n := by unfold St.cells; rw [h]
theorem cell_same {a : Addr} (h : S'.heap a.block = S.heap a.block) : S'.cell W a = S.cell W a := by unfold St.cell; rw [h]
theorem fx_same {a : Addr} (h : S'.heap a.block = S.heap a.block) : S'.fx W a = S.fx W a := by unfold St.fx; rw [h]
theorem Rd.low {v : Value} {l : List α} (h : Rd T W S v l) (k : Low S S') : Rd T W S' v l := by
  obtain ⟨h0, h | ⟨b, o, c, h1, h2, h3, h4, h5, h6, h7⟩⟩ := h
  · exact ⟨vlt1_mono k.2.1 h0, .inl h⟩
  · have e := k.2.2 b h4
    refine ⟨vlt1_mono k.2.1 h0, .inr ⟨b, o, c, h1, h2, h3, Nat.lt_of_lt_of_le h4 k.2.1, by rw [fx_same e]; exact h5, fun q => by rw [fx_same e]; exact h6 q, fun j hj => ?_⟩⟩
    obtain ⟨q1, q2⟩ := h7 j hj
    exact ⟨by rw [cells_same e]; exact q1, fun i hi => by rw [cell_same e]; exact q2 i hi⟩
theorem Rd.ext {v : Value} {l : List α} {D : List Nat} (h : Rd T W S v l) (k : Ext D S S') (hd : ∀ i, i ∈ blkOf v → i ∉ D) : Rd T W S' v l := by
  obtain ⟨h0, h | ⟨b, o, c, h1, h2, h3, h4, h5, h6, h7⟩⟩ := h
  · exact ⟨vlt1_mono k.c h0, .inl h⟩
  · have e := k.same b h4 (hd b (by rw [h1]; simp [blkOf]))
    refine ⟨vlt1_mono k.c h0, .inr ⟨b, o, c, h1, h2, h3, Nat.lt_of_lt_of_le h4 k.c, by rw [fx_same e]; exact h5, fun q => by rw [fx_same e]; exact h6 q, fun j hj => ?_⟩⟩
    obtain ⟨q1, q2⟩ := h7 j hj
    exact ⟨by rw [cells_same e]; exact q1, fun i hi => by rw [cell_same e]; exact q2 i hi⟩
theorem Rd.lt {v : Value} {l : List α} (h : Rd T W S v l) : ∀ i, i ∈ blkOf v → i < S.c := by
  intro i hi
  have h0 := h.1
  unfold blkOf at hi
  split at hi
  · simp at hi; subst hi; simpa using h0
  · simp at hi
theorem Rd.form {v : Value} {l : List α} (h : Rd T W S v l) : ∃ a c, v = .slice a l.length c := by
  obtain ⟨_, ⟨a, c, rfl, rfl⟩ | ⟨b, o, c, rfl, _⟩⟩ := h
  · exact ⟨a, c, rfl⟩
  · exact ⟨_, c, rfl⟩
theorem Rd.at {v : Value} {l : List α} (h : Rd T W S v l) (hl : 0 < l.length) : ∃ b o c, v = .slice (some ⟨b, o, none⟩) l.length c ∧ b < S.c ∧
    ∀ j, (hj : j < l.length) → S.cells W ⟨b, o + j * T.k, none⟩ T.k = some (T.cs l[j]) ∧ ∀ i, i < T.k → S.cell W ⟨b, o + j * T.k + i, none⟩ = nth (T.cs l[j]) i := by
  obtain ⟨_, ⟨a, c, rfl, rfl⟩ | ⟨b, o, c, h1, h2, h3, h4, h5, h6, h7⟩⟩ := h
  · simp at hl
  · exact ⟨b, o, c, h1, h4, h7⟩
theorem rd_nil : Rd T W S (.slice none 0 0) [] := ⟨rfl, .inl ⟨none, 0, rfl, rfl⟩⟩
theorem OldSl.rd (hf : ∀ a, (T.cs a).all flat0 = true) {v : Value} {l : List α} (h : OldSl T W v l) (g : Gd W S) : Rd T W S v l := by
  by_cases hl : 0 < l.length
  · obtain ⟨b, o, c, rfl, h1, h2, h3, h4⟩ := h.get hf hl
    have hb : b < S.c := Nat.lt_of_lt_of_le h2 g.n
    exact ⟨by simpa using hb, .inr ⟨b, o, c, rfl, h1, hl, hb, by rw [h3 S]; exact .inl rfl, fun _ => h3 S, fun j hj => h4 S j hj⟩⟩
  · have : l = [] := List.eq_nil_of_length_eq_zero (by omega)
    subst this
    rcases h with ⟨rfl, _⟩ | ⟨b, o, c, rfl, h1, h2, h3⟩
    · exact rd_nil
    · exact ⟨by simpa using Nat.lt_of_lt_of_le h1 g.n, .inl ⟨_, c, rfl, rfl⟩⟩
theorem Sl.rd {v : Value} {l : List α} (h : Sl T S v l) (g : Gd W S) : Rd T W S v l := by
  by_cases hl : 0 < l.length
  · obtain ⟨b, o, c, rfl, h1, h2, h3, h4, h5, h6⟩ := h.get g hl
    exact ⟨by simpa using h4, .inr ⟨b, o, c, rfl, h1, hl, h4, by rw [h5]; exact .inr rfl, fun q => by omega, h6⟩⟩
  · have : l = [] := List.eq_nil_of_length_eq_zero (by omega)
    subst this
    have hlt := h.lt g.ok
    obtain ⟨a, c, rfl⟩ := h.form
    refine ⟨?_, .inl ⟨a, c, rfl, rfl⟩⟩
    cases a with
    | none => rfl
    | some a => simpa [blkOf] using hlt
theorem rd_made {S : St} (g : Gd W S) {k : Nat} (l : List α) {n c : Nat} (hn : n = l.length) (h0 : 0 < l.length) (hc : n ≤ c) {b : Nat} (hb : W.heap.size ≤ b) (hr : S.heap b = .row (T.fl l) k) (hk : k = 0 ∨ k = T.k := by simp) : Rd T W S (.slice (some ⟨b, 0, none⟩) n c) l := by
  subst hn
  have hlt := row_lt g.ok hr
  refine ⟨by simpa using hlt, .inr ⟨b, 0, c, rfl, hc, h0, hlt, by rw [fx_row hb hr]; exact hk.imp (fun h => by rw [h]) (fun h => by rw [h]), fun q => by omega, fun j hj => ?_⟩⟩
  have key := fl_at T l j hj
  have hle : 0 + j * T.k + T.k ≤ (T.fl l).length := by
    rw [fl_len]
    have := Nat.mul_le_mul_right T.k (Nat.succ_le_of_lt hj)
    rw [Nat.succ_mul] at this
    omega
  refine ⟨?_, fun i hi => ?_⟩
  · rw [cells_at hb _ T.pos, hr, cellsOf_row, if_pos hle, Nat.zero_add, key]
  · rw [cell_at hb, hr, cellOf_row, nth_eq, nth_eq, ← key, List.getElem?_take_of_lt hi, List.getElem?_drop, Nat.zero_add]
end
end Go.Proofs.Yteofdikfdknpbaa.E
end
section
namespace Go.Proofs.Yteofdikfdknpbaa.E
open Go Go.RowKit
set_option linter.unusedVariables false
theorem relock2 (S : St) (a b : Nat) : (S.relock a).relock b = S.relock b := rfl
theorem relock_id {S : St} {l : Nat} (h : l = S.lock) : S.relock l = S := by subst h; rfl
theorem Gd.relock2 {W : World} {S : St} {k : Nat} (g : Gd W S) (h : k = S.c) : Gd W (S.relock k) := by subst h; exact g.relock
theorem pick_or2 (b c : Bool) : aPick (.bool !b) (.bool true) (wV b (.bool c)) = some (.bool (!b || c)) := by cases b <;> rfl
theorem nat_eq_id {a b : Nat} (h : a = b) : a = b := h
@[simp] theorem storable_func (f : Fn) (a b : Array Value) : storable (.func f a b) = true := rfl
@[simp] theorem cells_func (f : Fn) (a b : Array Value) : (Value.func f a b).cells = #[.func f a b] := rfl
@[simp] theorem box_func {S : St} (f : Fn) (a b : Array Value) : aBox S (.func f a b) = some (.pointer (some ⟨S.c, 0, none⟩), S.new (.row [.func f a b] 0)) := rfl
@[simp] theorem bne_ff : (false != false) = false := rfl
@[simp] theorem bne_tt : (true != true) = false := rfl
@[simp] theorem bne_tf : (true != false) = true := rfl
@[simp] theorem bne_ft : (false != true) = true := rfl
@[simp] theorem beq_tt : (true == true) = true := rfl
@[simp] theorem beq_ff : (false == false) = true := rfl
section
variable {α : Type} {T : Enc α} {P : Program} {W : World} {S S' : St}
theorem rd_cut {t e : TypeId} (hu : P.underlying t = some (.slice e)) (hs : szOf P e = some T.k) {a : Option Addr} {n c : Nat} {l : List α} (h : Rd T W S (.slice a n c) l) {i : Nat} (hi : i ≤ l.length) (hn : 0 < l.length) :
    ∃ v, aSlice P W S t (.slice a n c) none (some (.int .i64 i)) none = some v ∧ Rd T W S v (l.take i) := by
  obtain ⟨h0, ⟨a', c', e1, rfl⟩ | ⟨b, o, c', h1, h2, h3, h4, h5, h6, h7⟩⟩ := h
  · simp at hn
  · injection h1 with q1 q2 q3
    subst q1 q2 q3
    have e2 : bnd none c c = some c := rfl
    have e1 : bnd (some (.int .i64 (i : Int))) 0 c = some i := by
      show (if (0 : Int) ≤ i ∧ (i : Int) ≤ (c : Int) then some (Int.toNat i) else none) = some i
      rw [if_pos ⟨by omega, by omega⟩]; rfl
    have e3 : bnd none 0 i = some 0 := rfl
    have hb : aBounds l.length c none (some (.int .i64 i)) none = some (0, i, c) := by simp only [aBounds, e2, e1, e3]
    have ha : ∀ (q : Prop) [Decidable q], (if q then (⟨b, o, none⟩ : Addr) else (⟨b, o, none⟩ : Addr).add (0 * T.k)) = ⟨b, o, none⟩ := fun q _ => by
      rw [Nat.zero_mul]
      split <;> rfl
    refine ⟨.slice (some ⟨b, o, none⟩) i c, ?_, ?_⟩
    · rcases h5 with h5 | h5
      · simp only [aSlice, isZ_none, Bool.false_eq_true, if_false, hu, hs, h5, hb]
        rw [if_pos (Or.inl trivial), if_neg (by simp), ha, Nat.sub_zero, Nat.sub_zero]
      · simp only [aSlice, isZ_none, Bool.false_eq_true, if_false, hu, hs, h5, hb]
        rw [if_pos (Or.inr trivial), if_neg (by simp), ha, Nat.sub_zero, Nat.sub_zero]
    · have hl : (l.take i).length = i := by rw [List.length_take]; omega
      by_cases hi0 : i = 0
      · subst hi0
        exact ⟨h0, .inl ⟨_, c, rfl, by simp⟩⟩
      · refine ⟨h0, .inr ⟨b, o, c, by rw [hl], by omega, by omega, h4, h5, h6, fun j hj => ?_⟩⟩
        obtain ⟨p1, p2⟩ := h7 j (by omega)
        rw [List.getElem_take]
        exact ⟨p1, p2⟩
theorem Rd.vlt {v : Value} {l : List α} (h : Rd T W S v l) : vlt1 S.c v = true := h.1
end
end Go.Proofs.Yteofdikfdknpbaa.E
end
section
namespace Go.Proofs.Yteofdikfdknpbaa.E
open Go
set_option linter.unusedVariables false
section
variable {α : Type} {T : Enc α} {P : Program} {W : World} {S S' : St}
theorem oldCells_cell {b o : Nat} {L : List Value} (hb : b < W.heap.size) (h : ∀ i, i < L.length → S.cell W ⟨b, o + i, none⟩ = L[i]?) : ∀ (m k : Nat), m + k = L.length → oldCells W ⟨b, o, none⟩ k m = some (L.drop k)
  | 0, k, hk => by rw [List.drop_eq_nil_of_le (by omega)]; rfl
  | m + 1, k, hk => by
    have hlt : k < L.length := by omega
    have hc := h k hlt
    rw [List.getElem?_eq_getElem hlt] at hc
    have hblk : (⟨b, o + k, none⟩ : Addr).block < W.heap.size := hb
    unfold St.cell at hc
    rw [if_pos hblk] at hc
    rw [oldCells, add_mk]
    cases hw : W.cell? ⟨b, o + k, none⟩ with
    | none => rw [hw] at hc; cases hc
    | some v =>
      rw [hw] at hc
      dsimp only at hc ⊢
      rw [hc, oldCells_cell hb h m (k + 1) (by omega)]
      dsimp only
      rw [List.drop_eq_getElem_cons hlt]
theorem cells_of_cell {b o : Nat} {L : List Value} (h0 : 0 < L.length) (h : ∀ i, i < L.length → S.cell W ⟨b, o + i, none⟩ = L[i]?) : S.cells W ⟨b, o, none⟩ L.length = some L := by
  unfold St.cells
  rw [if_neg (by omega)]
  by_cases hb : b < W.heap.size
  · rw [if_pos hb, oldCells_cell (S := S) hb h L.length 0 rfl, List.drop_zero]
  · rw [if_neg hb]
    have hc : ∀ i, i < L.length → (match S.heap b with | .row cs _ => cs[o + i]? | _ => none) = L[i]? := fun i hi => by
      have := h i hi
      unfold St.cell at this
      rw [if_neg hb] at this
      exact this
    cases hr : S.heap b with
    | row cs k =>
      simp only [hr] at hc
      dsimp only
      have hle : o + L.length ≤ cs.length := by
        have := hc (L.length - 1) (by omega)
        rw [List.getElem?_eq_getElem (by omega : L.length - 1 < L.length)] at this
        have := (List.getElem?_eq_some_iff.1 this).1
        omega
      rw [if_pos hle]
      refine congrArg some (List.ext_getElem? fun i => ?_)
      by_cases hi : i < L.length
      · rw [List.getElem?_take_of_lt hi, List.getElem?_drop, hc i hi]
      · rw [List.getElem?_eq_none (by rw [List.length_take]; omega), List.getElem?_eq_none (by omega)]
    | _ =>
      simp only [hr] at hc
      have := hc 0 h0
      rw [List.getElem?_eq_getElem h0] at this
      cases this
theorem fl_nth : ∀ (l : List α) (j i : Nat) (hj : j < l.length) (hi : i < T.k), (T.fl l)[j * T.k + i]? = (T.cs l[j])[i]?
  | l, j, i, hj, hi => by rw [← fl_at T l j hj, List.getElem?_take_of_lt hi, List.getElem?_drop]
theorem Rd.cells {b o n c : Nat} {l : List α} (h : Rd T W S (.slice (some ⟨b, o, none⟩) n c) l) : S.cells W ⟨b, o, none⟩ (l.length * T.k) = some (T.fl l) := by
  by_cases h0 : l.length = 0
  · have : l = [] := List.eq_nil_of_length_eq_zero h0
    subst this
    unfold St.cells
    rw [if_pos (by simp)]
    rfl
  · obtain ⟨b', o', c', e, hb, hr⟩ := h.at (by omega)
    injection e with e _ _
    injection e with e
    injection e with e1 e2 _
    subst e1 e2
    rw [← fl_len]
    refine cells_of_cell (by rw [fl_len]; exact Nat.mul_pos (by omega) T.pos) fun i hi => ?_
    rw [fl_len] at hi
    have hk := T.pos
    have hd : i / T.k < l.length := Nat.div_lt_of_lt_mul (by rw [Nat.mul_comm]; exact hi)
    have hm : i % T.k < T.k := Nat.mod_lt _ hk
    have e3 : i / T.k * T.k + i % T.k = i := by rw [Nat.mul_comm]; exact Nat.div_add_mod i T.k
    have hx := (hr (i / T.k) hd).2 (i % T.k) hm
    rw [nth_eq, ← fl_nth l _ _ hd hm, Nat.add_assoc, e3] at hx
    exact hx
theorem Rd.src {xt e : TypeId} (hu : P.underlying xt = some (.slice e)) {z v : Value} {l : List α} (h : Rd T W S v l) : SrcIs P W S xt T.k z v l.length (T.fl l) := by
  have h' := h
  obtain ⟨_, ⟨a, c, rfl, rfl⟩ | ⟨b, o, c, rfl, _⟩⟩ := h
  · cases a with
    | none => exact src_nil hu (fun k => by simp)
    | some a =>
      refine src_slice hu (fun k => by simp) ?_
      unfold St.cells
      rw [if_pos (by simp)]
      rfl
  · exact src_slice hu (fun k => by simp) h'.cells
def Mk (T : Enc α) (lo hi : Nat) (S : St) (v : Value) (l : List α) : Prop :=
  (∃ a c, v = .slice a 0 c ∧ l = [] ∧ vlt1 hi v = true) ∨
  ∃ b c k, v = .slice (some ⟨b, 0, none⟩) l.length c ∧ 0 < l.length ∧ l.length ≤ c ∧ lo ≤ b ∧ b < hi ∧ S.heap b = .row (T.fl l) k ∧ (k = 0 ∨ k = T.k)
theorem Mk.rd {lo hi : Nat} {v : Value} {l : List α} (h : Mk T lo hi S v l) (g : Gd W S) (hlo : W.heap.size ≤ lo) (hhi : hi ≤ S.c) : Rd T W S v l := by
  rcases h with ⟨a, c, rfl, rfl, hv⟩ | ⟨b, c, k, rfl, h0, hc, h1, h2, hr, hk⟩
  · exact ⟨vlt1_mono hhi hv, .inl ⟨a, c, rfl, rfl⟩⟩
  · exact rd_made g l rfl h0 hc (Nat.le_trans hlo h1) hr hk
theorem Mk.keep {lo hi : Nat} {v : Value} {l : List α} (h : Mk T lo hi S v l) (e : ∀ i, lo ≤ i → i < hi → S'.heap i = S.heap i) : Mk T lo hi S' v l := by
  rcases h with ⟨a, c, rfl, rfl, hv⟩ | ⟨b, c, k, rfl, h0, hc, h1, h2, hr, hk⟩
  · exact .inl ⟨a, c, rfl, rfl, hv⟩
  · exact .inr ⟨b, c, k, rfl, h0, hc, h1, h2, (e b h1 h2).trans hr, hk⟩
theorem Mk.low {lo hi : Nat} {v : Value} {l : List α} (h : Mk T lo hi S v l) (k : Low S S') (hhi : hi ≤ S.c) : Mk T lo hi S' v l := h.keep fun i _ h2 => k.2.2 i (by omega)
theorem Mk.form {lo hi : Nat} {v : Value} {l : List α} (h : Mk T lo hi S v l) : ∃ a c, v = .slice a l.length c := by
  rcases h with ⟨a, c, rfl, rfl, hv⟩ | ⟨b, c, k, rfl, h0, hc, h1, h2, hr, hk⟩
  · exact ⟨a, c, rfl⟩
  · exact ⟨_, c, rfl⟩
theorem Gd.back {S T : St} (g : Gd W S) (g' : Gd W T) (h : S.lock ≤ T.c) : Gd W (T.relock S.lock) := ⟨g.lock, ⟨h, g'.ok.2⟩, g'.cl⟩
end
end Go.Proofs.Yteofdikfdknpbaa.E
end
section
namespace Go.Proofs.Yteofdikfdknpbaa.E
open Go Go.RowKit Go.Deep Go.ChangeShapes Go.WideShapes
set_option linter.unusedVariables false
theorem u32_nat {x : Int} (h : (Lit.int .u32 x).wf = true) : ∃ c : {n : Nat // n < 4294967296}, x = (c.1 : Int) := by
  have h' : 0 ≤ x ∧ x < 4294967296 := by
    simp [Lit.wf, IntKind.min, IntKind.max, IntKind.signed, IntKind.bits] at h; omega
  exact ⟨⟨x.toNat, by omega⟩, by simp; omega⟩
theorem i64_rng {x : Int} (h : (Lit.int .i64 x).wf = true) : -9223372036854775808 ≤ x ∧ x < 9223372036854775808 := by
  simp [Lit.wf, IntKind.min, IntKind.max, IntKind.signed, IntKind.bits] at h; omega
section
variable {P : Program} {α : Type} {T : Enc α}
theorem cell_block_lt {w : World} {a : Addr} {v : Value} (h : w.cell? a = some v) : a.block < w.heap.size := by
  unfold World.cell? at h
  by_cases hlt : a.block < w.heap.size
  · exact hlt
  · rw [Array.getElem?_eq_none (by omega)] at h
    cases h
theorem old_slice_at {t e : TypeId} {right : α → Prop} (ht : P.underlying t = some (.slice e)) (hC : P.cellsOf e = T.k) (he : Rf P e T.cs right) {H : Type} {enc : TypeId × Value → H} {w : World} {base : Nat} {spare : Nat → Bool} {held : Bool} {fuel : Nat} {v : Value} {y : DataW H × List MemPlace}
    (h : DataW.trod enc P w base spare held fuel t [v] = some y) (hw : ∀ n ∈ y.1.weights P t, n ≤ reachBytes) (hok : ∀ (a : Addr) (l c : Nat), v = .slice (some a) l c → a.spot = none ∧ a.block < w.heap.size) :
    ∃ l : List α, OldSl T w v l ∧ l.length * P.bytesOf e ≤ 140737488351232 ∧ ∀ x ∈ l, right x := by
  rcases open_slice ht h with ⟨h0, rfl⟩ | ⟨a, len, cap, m, n, D, Pl, h0, hb, hl, hm, hmm, rfl, hx⟩
  · simp only [List.cons.injEq, and_true] at h0
    subst h0
    exact ⟨[], .inl ⟨rfl, rfl⟩, by simp, by simp⟩
  · simp only [List.cons.injEq, and_true] at h0
    subst h0
    have hle : len ≤ m := by rw [hmm]; split <;> omega
    have hok := hok a len cap rfl
    obtain ⟨b, o, sp⟩ := a
    obtain ⟨hs, hlt⟩ := hok
    dsimp only at hs hlt
    subst hs
    have hmem : ∀ i, i < len → ∀ n ∈ (D i).weights P e, n ≤ reachBytes := by
      intro i hi n hn
      refine hw n ?_
      simp only [DataW.weights, ht]
      refine List.mem_cons_of_mem _ (List.mem_append_left _ (weightsAll_mem (List.mem_map.2 ⟨i, List.mem_range.2 hi, rfl⟩) n hn))
    have hsize : len * P.bytesOf e ≤ reachBytes := by
      have := hw _ (by simp only [DataW.weights, ht]; exact List.mem_cons_self ..)
      simp only [List.length_map, List.length_range] at this
      exact Nat.le_trans (Nat.mul_le_mul_right _ (Nat.le_add_right _ _)) this
    have build : ∀ k, k ≤ len → ∃ l : List α, l.length = k ∧ ∀ (i : Nat) (hi : i < l.length), right l[i] ∧ ∀ j, j < T.k → w.cell? ⟨b, o + i * T.k + j, none⟩ = nth (T.cs l[i]) j := by
      intro k
      induction k with
      | zero => exact fun _ => ⟨[], rfl, fun i hi => by simp at hi⟩
      | succ k ih =>
        intro hk
        obtain ⟨l, hll, hf⟩ := ih (by omega)
        obtain ⟨cs', hc, ht'⟩ := hx k (by omega)
        obtain ⟨x, rfl, hr⟩ := he enc w base spare held n cs' _ ht' (hmem k (by omega))
        refine ⟨l ++ [x], by rw [List.length_append, List.length_singleton, hll], fun i hi => ?_⟩
        rcases Nat.lt_or_ge i l.length with hlt | hge
        · rw [List.getElem_append_left hlt]
          exact hf i hlt
        · have hik : i = k := by
            rw [List.length_append, List.length_singleton] at hi
            omega
          subst hik
          rw [List.getElem_append_right hge]
          simp only [List.getElem_singleton]
          refine ⟨hr, fun j hj => ?_⟩
          obtain ⟨_, hlen, hcell⟩ := World.cells?_some hc
          have := hcell j (by rw [hC]; exact hj)
          rw [hC, add_mk, add_mk] at this
          rw [this, nth_eq]
    obtain ⟨l, hll, hf⟩ := build len (Nat.le_refl _)
    subst hll
    refine ⟨l, .inr ⟨b, o, cap, rfl, hlt, hl, fun j hj => (hf j hj).2⟩, Nat.le_trans hsize (by decide), fun x hx => ?_⟩
    obtain ⟨i, hi, rfl⟩ := List.getElem_of_mem hx
    exact (hf i hi).1
theorem old_inner {t e : TypeId} {right : α → Prop} (ht : P.underlying t = some (.slice e)) (hC : P.cellsOf e = T.k) (he : Rf P e T.cs right) (hf : ∀ a, (T.cs a).all flat0 = true) {H : Type} {enc : TypeId × Value → H} {w : World} {base : Nat} {held : Bool} {fuel : Nat} {cs : List Value} {y : DataW H × List MemPlace} (hw0 : 0 < w.heap.size)
    (h : DataW.trod enc P w base (fun _ => true) held fuel t cs = some y) (hw : ∀ n ∈ y.1.weights P t, n ≤ reachBytes) :
    ∃ (v : Value) (a : Option Addr) (n c : Nat) (l : List α), cs = [v] ∧ getV w v = some (.slice a n c) ∧ (∀ S, Gd w S → w.heap.size < S.c → Rd T w S (.slice a n c) l) ∧ l.length * P.bytesOf e ≤ 140737488351232 ∧ ∀ x ∈ l, right x := by
  have h' := h
  rcases open_slice ht h with ⟨h0, rfl⟩ | ⟨a, len, cap, m, n, D, Pl, h0, hb, hl, hm, hmm, hy, hx⟩
  · subst h0
    exact ⟨_, none, 0, 0, [], rfl, getV_old rfl, fun S g hc => rd_nil, by simp, by simp⟩
  · subst h0
    rw [if_pos rfl] at hmm
    subst hmm
    by_cases hcap : 0 < m
    · obtain ⟨cs', hc, _⟩ := hx 0 hcap
      obtain ⟨_, hlen, hcell⟩ := World.cells?_some hc
      have hz : 0 < P.cellsOf e := by rw [hC]; exact T.pos
      have h00 := hcell 0 hz
      rw [List.getElem?_eq_getElem (by omega)] at h00
      have hadd : ((a.add (0 * P.cellsOf e)).add 0) = a := by simp [Addr.add]
      rw [hadd] at h00
      have hsp := World.cell?_spot h00
      have hbl := cell_block_lt h00
      obtain ⟨l, q1, q2, q3⟩ := old_slice_at ht hC he h' hw (fun a' l' c' e' => by injection e' with e1 _ _; injection e1 with e1; subst e1; exact ⟨hsp, hbl⟩)
      obtain ⟨a', c', e'⟩ := q1.form
      refine ⟨_, some a, len, m, l, rfl, getV_old (decide_eq_true hbl), fun S g hc => q1.rd hf g, q2, q3⟩
    · have hm0 : m = 0 := by omega
      have hl0 : len = 0 := by omega
      subst hm0 hl0
      by_cases hbl : a.block < w.heap.size
      · refine ⟨_, some a, 0, 0, [], rfl, getV_old (decide_eq_true hbl), fun S g hc => ⟨?_, .inl ⟨some a, 0, rfl, rfl⟩⟩, by simp, by simp⟩
        rw [vlt1_sl]
        exact decide_eq_true (Nat.lt_trans hbl hc)
      · refine ⟨_, some ⟨w.heap.size, 0, some 0⟩, 0, 0, [], rfl, ?_, fun S g hc => ⟨?_, .inl ⟨_, 0, rfl, rfl⟩⟩, by simp, by simp⟩
        · unfold getV
          rw [if_neg (by show ¬ (decide (a.block < w.heap.size) = true); simpa using hbl)]
          rfl
        · rw [vlt1_sl]
          exact decide_eq_true hc
structure Iv (α : Type) where
  a : Option Addr
  n : Nat
  c : Nat
  l : List α
theorem old_slices {t t2 e : TypeId} {right : α → Prop} (ht : P.underlying t = some (.slice t2)) (ht2 : P.underlying t2 = some (.slice e)) (hC2 : P.cellsOf t2 = 1) (hC : P.cellsOf e = T.k) (he : Rf P e T.cs right) (hf : ∀ a, (T.cs a).all flat0 = true) {H : Type} {enc : TypeId × Value → H} {w : World} {base : Nat} {held : Bool} {fuel : Nat} {v : Value} {y : DataW H × List MemPlace}
    (h : DataW.trod enc P w base (fun _ => true) held fuel t [v] = some y) (hw : ∀ n ∈ y.1.weights P t, n ≤ reachBytes) (hok : ∀ (a : Addr) (l c : Nat), v = .slice (some a) l c → a.spot = none ∧ a.block < w.heap.size) :
    ∃ (svs : List (Iv α)), svs.length * P.bytesOf t2 ≤ 140737488351232 ∧ (v = .slice none 0 0 ∧ svs = [] ∨ ∃ b o c, v = .slice (some ⟨b, o, none⟩) svs.length c ∧ svs.length ≤ c ∧ b < w.heap.size ∧ ∀ j, (hj : j < svs.length) → ∃ u, w.cell? ⟨b, o + j, none⟩ = some u ∧ getV w u = some (.slice svs[j].a svs[j].n svs[j].c)) ∧
      ∀ s ∈ svs, (∀ S, Gd w S → w.heap.size < S.c → Rd T w S (.slice s.a s.n s.c) s.l) ∧ s.l.length * P.bytesOf e ≤ 140737488351232 ∧ ∀ x ∈ s.l, right x := by
  rcases open_slice ht h with ⟨h0, rfl⟩ | ⟨a, len, cap, m, n, D, Pl, h0, hb, hl, hm, hmm, rfl, hx⟩
  · simp only [List.cons.injEq, and_true] at h0
    subst h0
    exact ⟨[], by simp, .inl ⟨rfl, rfl⟩, by simp⟩
  · simp only [List.cons.injEq, and_true] at h0
    subst h0
    rw [if_pos rfl] at hmm
    have hok := hok a len cap rfl
    obtain ⟨b, o, sp⟩ := a
    obtain ⟨hs, hlt⟩ := hok
    dsimp only at hs hlt
    subst hs
    have hw0 : 0 < w.heap.size := by omega
    have hmem : ∀ i, i < len → ∀ n ∈ (D i).weights P t2, n ≤ reachBytes := by
      intro i hi n hn
      refine hw n ?_
      simp only [DataW.weights, ht]
      refine List.mem_cons_of_mem _ (List.mem_append_left _ (weightsAll_mem (List.mem_map.2 ⟨i, List.mem_range.2 hi, rfl⟩) n hn))
    have hsize : len * P.bytesOf t2 ≤ reachBytes := by
      have := hw _ (by simp only [DataW.weights, ht]; exact List.mem_cons_self ..)
      simp only [List.length_map, List.length_range] at this
      exact Nat.le_trans (Nat.mul_le_mul_right _ (Nat.le_add_right _ _)) this
    have build : ∀ k, k ≤ len → ∃ l : List (Iv α), l.length = k ∧ (∀ (i : Nat) (hi : i < l.length), ∃ u, w.cell? ⟨b, o + i, none⟩ = some u ∧ getV w u = some (.slice l[i].a l[i].n l[i].c)) ∧ ∀ s ∈ l, (∀ S, Gd w S → w.heap.size < S.c → Rd T w S (.slice s.a s.n s.c) s.l) ∧ s.l.length * P.bytesOf e ≤ 140737488351232 ∧ ∀ x ∈ s.l, right x := by
      intro k
      induction k with
      | zero => exact fun _ => ⟨[], rfl, fun i hi => by simp at hi, by simp⟩
      | succ k ih =>
        intro hk
        obtain ⟨l, hll, hf1, hf2⟩ := ih (by omega)
        obtain ⟨cs', hc, ht'⟩ := hx k (by omega)
        obtain ⟨u, a', n', c', l', rfl, hg, hr1, hr2, hr3⟩ := old_inner ht2 hC he hf hw0 ht' (hmem k (by omega))
        obtain ⟨_, hlen, hcell⟩ := World.cells?_some hc
        refine ⟨l ++ [⟨a', n', c', l'⟩], by rw [List.length_append, List.length_singleton, hll], fun i hi => ?_, fun s hs => ?_⟩
        · rcases Nat.lt_or_ge i l.length with hlt | hge
          · rw [List.getElem_append_left hlt]
            exact hf1 i hlt
          · have hik : i = k := by
              rw [List.length_append, List.length_singleton] at hi
              omega
            subst hik
            rw [List.getElem_append_right hge]
            simp only [List.getElem_singleton]
            have := hcell 0 (by rw [hC2]; omega)
            rw [hC2, add_mk, add_mk, Nat.mul_one] at this
            exact ⟨u, this, hg⟩
        · rcases List.mem_append.1 hs with hs | hs
          · exact hf2 s hs
          · rw [List.mem_singleton] at hs
            subst hs
            exact ⟨hr1, hr2, hr3⟩
    obtain ⟨l, hll, hf1, hf2⟩ := build len (Nat.le_refl _)
    subst hll
    exact ⟨l, Nat.le_trans hsize (by decide), .inr ⟨b, o, cap, rfl, hl, hlt, hf1⟩, hf2⟩
theorem old_cells1 {w : World} {S : St} {b o : Nat} {u v : Value} (hb : b < w.heap.size) (hc : w.cell? ⟨b, o, none⟩ = some u) (hg : getV w u = some v) : S.cells w ⟨b, o, none⟩ 1 = some [v] ∧ S.cell w ⟨b, o, none⟩ = some v := by
  constructor
  · unfold St.cells
    rw [if_neg (by omega), if_pos hb]
    show (match w.cell? ((⟨b, o, none⟩ : Addr).add 0) with | some v => (match getV w v with | some u => (match oldCells w ⟨b, o, none⟩ (0 + 1) 0 with | some l => some (u :: l) | none => none) | none => none) | none => none) = _
    rw [add_mk, Nat.add_zero, hc]
    dsimp only
    rw [hg]
    rfl
  · unfold St.cell
    rw [if_pos hb, hc]
    exact hg
end
end Go.Proofs.Yteofdikfdknpbaa.E
end
