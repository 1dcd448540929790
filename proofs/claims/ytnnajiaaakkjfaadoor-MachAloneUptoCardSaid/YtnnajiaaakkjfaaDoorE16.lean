/- A row of operations whose order is open is answered. -/
import Derived.Test.YtnnajiaaakkjfaaDoorE15
namespace Go.Proofs.YtnnajiaaakkjfaaDoor.E
open Go Go.RowKit
set_option linter.unusedVariables false

section
variable {P : Program} {W : World} {C : Caller} {ops : Array Oper} {A : Act} {S : St} {φ0 : Emb} {w0 : World} {a0 : Act} {A' : Act} {S' : St}

/-- The slots behind one more operation. -/
theorem tmps_step (R : Row P W C ops A S A' S') {listed : Array Bool} {φ φ' : Emb} {a : Act} {w : World} (I : Inv (P := P) (W := W) (C := C) (ops := ops) (A := A) (S := S) φ0 w0 a0 listed φ a w) {i : Nat} {o : Oper} (hi : i ∈ Region.ready .any ops listed) (ho : ops[i]? = some o)
    (hle : ELe φ φ') {v v' : Value} (hv : VRel W.heap.size φ' v v') (hT : (T P W C ops A S (i + 1)).1 = (T P W C ops A S i).1.put o.dst v) :
    ∀ t, (∃ k p, Tm (listed.setIfInBounds i true) k ∧ ops[k]? = some p ∧ p.dst = some t ∧ (∀ k' o', Tm (listed.setIfInBounds i true) k' → ops[k']? = some o' → o'.dst = some t → k' ≤ k) ∧ VRel W.heap.size φ' ((T P W C ops A S (k + 1)).1.tmps.getD t undef) ((a.put o.dst v').tmps.getD t undef)) ∨
    ((∀ k' o', Tm (listed.setIfInBounds i true) k' → ops[k']? = some o' → o'.dst ≠ some t) ∧ VRel W.heap.size φ' (A.tmps.getD t undef) ((a.put o.dst v').tmps.getD t undef)) := by
  intro t
  have hin : i < ops.size := (Array.getElem?_eq_some_iff.1 ho).1
  have hil : i < listed.size := by rw [I.size]; exact hin
  have hni : ¬ Tm listed i := by
    have := (mem_ready.1 hi).1
    unfold Tm
    rw [Array.getD_eq_getD_getElem?] at this ⊢
    cases hx : listed[i]? with
    | none => simp
    | some b => rw [hx] at this; simp at this; simp [this]
  by_cases hd : o.dst = some t
  · refine .inl ⟨i, o, (tm_set hil).2 (.inl rfl), ho, hd, fun k' o' hk' ho' hd' => ?_, ?_⟩
    · rcases (tm_set hil).1 hk' with h | h
      · omega
      · refine Nat.le_of_not_lt fun hlt => hni (I.closed k' h i ((regionOk_spec R.hreg).2 i k' o o' hlt ho ho' ?_))
        unfold clash
        rw [hd]
        simp only [Bool.or_eq_true]
        exact .inl (.inr (by rw [hd']; simp))
    · have hsz := (R.sizes (k := i) (by omega)).1
      rw [hT, hd]
      simp only [Act.put, Array.getD_eq_getD_getElem?]
      by_cases hlt : t < A.tmps.size
      · rw [Array.getElem?_setIfInBounds_self, if_pos (by rw [hsz]; exact hlt), Array.getElem?_setIfInBounds_self, if_pos (by rw [I.tsz]; exact hlt)]
        exact hv
      · have n1 : ∀ (u : Array Value) (x : Value), u.size = A.tmps.size → (u.setIfInBounds t x)[t]? = none := fun u x hu => Array.getElem?_eq_none (by rw [Array.size_setIfInBounds, hu]; exact Nat.le_of_not_lt hlt)
        rw [n1 _ _ hsz, n1 _ _ I.tsz]
        exact undef_rel
  · have hsame : (a.put o.dst v').tmps.getD t undef = a.tmps.getD t undef := by
      cases hdd : o.dst with
      | none => rfl
      | some d =>
        have : d ≠ t := fun e => hd (by rw [hdd, e])
        simp only [Act.put, Array.getD_eq_getD_getElem?]
        rw [Array.getElem?_setIfInBounds_ne this]
    rw [hsame]
    rcases I.tmps t with ⟨k, p, h1, h2, h3, h4, h5⟩ | ⟨h1, h2⟩
    · refine .inl ⟨k, p, (tm_set hil).2 (.inr h1), h2, h3, fun k' o' hk' ho' hd' => ?_, h5.mono hle⟩
      rcases (tm_set hil).1 hk' with h | h
      · subst h; rw [ho] at ho'; cases ho'; exact (hd hd').elim
      · exact h4 k' o' h ho' hd'
    · refine .inr ⟨fun k' o' hk' ho' hd' => ?_, h2.mono hle⟩
      rcases (tm_set hil).1 hk' with h | h
      · subst h; rw [ho] at ho'; cases ho'; exact hd hd'
      · exact h1 k' o' h ho' hd'

theorem closed_step (R : Row P W C ops A S A' S') {listed : Array Bool} {φ : Emb} {a : Act} {w : World} (I : Inv (P := P) (W := W) (C := C) (ops := ops) (A := A) (S := S) φ0 w0 a0 listed φ a w) {i : Nat} (hi : i ∈ Region.ready .any ops listed) (hil : i < listed.size) :
    ∀ k, Tm (listed.setIfInBounds i true) k → ∀ j, (B ops k).testBit j = true → Tm (listed.setIfInBounds i true) j := by
  intro k hk j hj
  refine (tm_set hil).2 (.inr ?_)
  rcases (tm_set hil).1 hk with h | h
  · subst h; exact bef_closed R I.closed hi hj
  · exact I.closed k h j hj

/-- One operation more, whichever is ready. -/
theorem inv_step (R : Row P W C ops A S A' S') (hf : Free φ0 S.c S'.c) {Q : Exit → Act → World → Prop} {listed : Array Bool} {φ : Emb} {a : Act} {w : World} (I : Inv (P := P) (W := W) (C := C) (ops := ops) (A := A) (S := S) φ0 w0 a0 listed φ a w) {i : Nat} (hi : i ∈ Region.ready .any ops listed) {K : Act → World → Prop}
    (hK : ∀ φ' a' w', Inv (P := P) (W := W) (C := C) (ops := ops) (A := A) (S := S) φ0 w0 a0 (listed.setIfInBounds i true) φ' a' w' → K a' w') : wpOp P ops Q i K a w := by
  obtain ⟨h0, o, ho, hall⟩ := mem_ready.1 hi
  have hin : i < ops.size := (Array.getElem?_eq_some_iff.1 ho).1
  have hil : i < listed.size := by rw [I.size]; exact hin
  have hni : ¬ Tm listed i := by
    unfold Tm
    rw [Array.getD_eq_getD_getElem?] at h0 ⊢
    cases hx : listed[i]? with
    | none => simp
    | some b => rw [hx] at h0; simp at h0; simp [h0]
  have hlook := fun t (ht : t ∈ o.looksAt ops) => looks_rel R I hi ho ht
  have hsz := R.sizes (k := i) (by omega)
  have hoo : opOk P o = true := R.hops o (Array.mem_toList_iff.2 (Array.mem_of_getElem? ho))
  have hstep := R.step ho
  unfold stepC at hstep
  dsimp only at hstep
  split at hstep
  · cases hstep
  rename_i hgf
  have hgf : guardOk o ops (T P W C ops A S i).1.tmps = true := by simpa using hgf
  have hyield : Region.wanted o (yielded ops (T P W C ops A S i).1.tmps) = Region.wanted o (yielded ops a.tmps) := by
    unfold Region.wanted
    cases hg : o.guard with
    | none => rfl
    | some g =>
      obtain ⟨g, want⟩ := g
      dsimp only
      rw [yielded_rel (N := W.heap.size) (φ := φ) ops g (guard_notJ hgf hg) fun d hd => ?_]
      refine ⟨by rw [hsz.1, I.tsz], fun v hv => ?_⟩
      have := hlook d (by unfold Oper.looksAt; rw [hg]; simp [hd])
      have hlt := (Array.getElem?_eq_some_iff.1 hv).1
      have hlt' : d < a.tmps.size := by rw [I.tsz, ← hsz.1]; exact hlt
      refine ⟨a.tmps[d], Array.getElem?_eq_getElem hlt', ?_⟩
      simp only [Array.getD_eq_getD_getElem?, hv, Array.getElem?_eq_getElem hlt', Option.getD_some] at this
      exact this
  obtain ⟨e, he, he1, he2, hp⟩ := I.mem
  have same_e : i ≠ e → (∀ k, k < e → Loud ops k → Tm (listed.setIfInBounds i true) k) ∧ (e < ops.size → Loud ops e ∧ ¬ Tm (listed.setIfInBounds i true) e) := fun hne =>
    ⟨fun k hk hl => (tm_set hil).2 (.inr (he1 k hk hl)), fun h => ⟨(he2 h).1, fun ht => (((tm_set hil).1 ht).elim (fun h => hne h.symm) (he2 h).2)⟩⟩
  have hlast : (T P W C ops A S ops.size).2.c = S'.c := by rw [R.last]
  have hcS : S.c ≤ (T P W C ops A S i).2.c := R.c_mono (Nat.zero_le i) (by omega)
  have hcS' : (T P W C ops A S (i + 1)).2.c ≤ S'.c := by rw [← hlast]; exact R.c_mono (by omega) (Nat.le_refl _)
  have hci : (T P W C ops A S i).2.c ≤ (T P W C ops A S (i + 1)).2.c := (R.astep hin).c
  -- what is known of the numbers, where i is loud
  have later : Loud ops i → ∀ k, k < ops.size → Tm listed k → i < k → (T P W C ops A S (k + 1)).2.c = (T P W C ops A S k).2.c := by
    intro hl k hk hT hik
    have hok : ops[k]? = some ops[k] := Array.getElem?_eq_getElem hk
    by_cases hpk : pureOp ops[k].op = true
    · rw [R.pure_state hok hpk]
    · obtain ⟨oi, hoi, hpi, hino⟩ := hl
      exact (hni (I.closed k hT i ((inOrder_spec hino hok (by simpa using hpk) (by omega)).2 hik))).elim
  have dom_loud : Loud ops i → ∀ x L, φ x = some L → x < (T P W C ops A S i).2.c ∨ S'.c ≤ x := by
    intro hl x L ex
    rcases I.dom x L ex with h | ⟨k, hk, hT, h1, h2⟩
    · rcases Nat.lt_or_ge x S.c with hx | hx
      · exact .inl (by omega)
      · rcases Nat.lt_or_ge x S'.c with hx' | hx'
        · rw [hf x hx hx'] at h; cases h
        · exact .inr hx'
    · rcases Nat.lt_trichotomy k i with h | h | h
      · have := R.c_mono (show k + 1 ≤ i by omega) (by omega)
        exact .inl (by omega)
      · subst h; exact (hni hT).elim
      · have := later hl k hk hT h
        omega
  -- the next loud one
  have advance : i = e → ∀ φ' w', Post W φ0 S w0 φ' (T P W C ops A S (i + 1)).2 w' → (∀ x L, φ' x = some L → x < (T P W C ops A S (i + 1)).2.c ∨ S'.c ≤ x) → ∃ e', e' ≤ ops.size ∧ (∀ k, k < e' → Loud ops k → Tm (listed.setIfInBounds i true) k) ∧ (e' < ops.size → Loud ops e' ∧ ¬ Tm (listed.setIfInBounds i true) e') ∧ Post W φ0 S w0 φ' (T P W C ops A S e').2 w' := by
    intro hie φ' w' hpost hd
    subst hie
    have hloud := (he2 hin).1
    obtain ⟨e', n1, n2, n3, n4⟩ := next_loud (ops := ops) (listed.setIfInBounds i true) (i + 1) (by omega)
    refine ⟨e', n2, fun k hk hl => ?_, n4, Post.lift R n1 n2 (fun m h1 h2 hl => ?_) hpost hd⟩
    · rcases Nat.lt_trichotomy k i with h | h | h
      · exact (tm_set hil).2 (.inr (he1 k h hl))
      · exact (tm_set hil).2 (.inl h)
      · exact n3 k (by omega) hk hl
    · have hm := ((tm_set hil).1 (n3 m h1 h2 hl)).resolve_left (by omega)
      obtain ⟨om, hom, hpm, hinm⟩ := hl
      obtain ⟨oi, hoi, hpi, _⟩ := hloud
      exact hni (I.closed m hm i ((inOrder_spec hinm hoi hpi (by omega)).1 (by omega)))
  have make : ∀ {φ' : Emb} {v v' : Value} {w' : World}, ELe φ φ' → VRel W.heap.size φ' v v' → (T P W C ops A S (i + 1)).1 = (T P W C ops A S i).1.put o.dst v →
      (∃ e, e ≤ ops.size ∧ (∀ k, k < e → Loud ops k → Tm (listed.setIfInBounds i true) k) ∧ (e < ops.size → Loud ops e ∧ ¬ Tm (listed.setIfInBounds i true) e) ∧ Post W φ0 S w0 φ' (T P W C ops A S e).2 w') →
      (∀ x L, φ' x = some L → φ x = some L ∨ ((T P W C ops A S i).2.c ≤ x ∧ x < (T P W C ops A S (i + 1)).2.c)) → K (a.put o.dst v') w' := by
    intro φ' v v' w' hle hv hT hm hdom
    refine hK φ' _ w' ⟨by rw [Array.size_setIfInBounds]; exact I.size, closed_step R I hi hil, hm, fun x L ex => ?_, ?_, ?_, tmps_step R I hi ho hle hv hT⟩
    · rcases hdom x L ex with h | ⟨h1, h2⟩
      · rcases I.dom x L h with h | ⟨k, hk, hT, h1, h2⟩
        · exact .inl h
        · exact .inr ⟨k, hk, (tm_set hil).2 (.inr hT), h1, h2⟩
      · exact .inr ⟨i, hin, (tm_set hil).2 (.inl rfl), h1, h2⟩
    · cases o.dst with
      | none => exact I.tsz
      | some d => simp [Act.put, I.tsz]
    · cases o.dst with
      | none => exact I.dfr
      | some d => exact I.dfr
  unfold wpOp
  rw [ho]
  dsimp only
  rw [hyield] at hstep
  by_cases hw : Region.wanted o (yielded ops a.tmps) = true
  rotate_left
  · rw [if_neg hw] at hstep ⊢
    have hT := (Option.some.inj hstep).symm
    have e2 : (T P W C ops A S (i + 1)).2 = (T P W C ops A S i).2 := by rw [hT]
    refine make (ELe.refl φ) undef_rel (by rw [hT]) ?_ (fun x L ex => .inl ex)
    by_cases hie : i = e
    · refine advance hie φ w (by rw [e2]; rw [hie]; exact hp) (fun x L ex => by rw [e2]; exact dom_loud (by rw [hie]; exact (he2 (by omega)).1) x L ex)
    · exact ⟨e, he, (same_e hie).1, (same_e hie).2, hp⟩
  rw [if_pos hw] at hstep ⊢
  refine .inl ?_
  obtain ⟨c1, c2⟩ := opOk_src hoo
  have hρ : ∀ {S1 : St}, Rel W φ S1 w → ∀ x ∈ o.op.operands, VRel W.heap.size φ ((T P W C ops A S i).1.eval x) (a.eval x) := by
    intro S1 hr x hx
    have hx2 : operOk P x = true := by
      unfold opOk at hoo
      simp only [Bool.and_eq_true, Array.all_eq_true_iff_forall_mem] at hoo
      exact hoo.1 x hx
    refine eval_rel R.hG hr hx2 fun t ht => hlook t ?_
    subst ht
    unfold Oper.looksAt
    simp only [List.mem_append, List.mem_filterMap]
    exact .inl ⟨_, Array.mem_toList_iff.2 hx, rfl⟩
  by_cases hpure : pureOp o.op = true
  · rw [hpure] at hstep
    simp only [Bool.not_true, Bool.false_and, Bool.false_eq_true, if_false] at hstep
    split at hstep
    · rename_i v S1 h1
      have hT := (Option.some.inj hstep).symm
      obtain ⟨p1, p2⟩ := pure_same hpure h1
      have hie : i ≠ e := by
        rintro rfl
        obtain ⟨oi, hoi, hpi, _⟩ := (he2 hin).1
        rw [ho] at hoi
        cases hoi
        rw [hpure] at hpi; cases hpi
      refine opStep_sound R.hC hp.rel (hρ hp.rel) (fun x h1 h2 => by omega) c1 c2 (p2 (T P W C ops A S e).2) _ _ fun φ' v' w' hv hpo => ?_
      refine make hpo.ext hv (by rw [hT]) ⟨e, he, (same_e hie).1, (same_e hie).2, hp.trans (R.c_mono (Nat.zero_le e) he) (Nat.le_refl _) hpo⟩ fun x L ex => ?_
      rcases hpo.dom x L ex with h | h
      · exact .inl h
      · omega
    · cases hstep
  have hpf : pureOp o.op = false := by simpa using hpure
  by_cases hino : inOrder ops i = true
  · have hloud : Loud ops i := ⟨o, ho, hpf, hino⟩
    have hie : i = e := by
      rcases Nat.lt_trichotomy i e with h | h | h
      · exact (hni (he1 i h hloud)).elim
      · exact h
      · obtain ⟨oe, hoe, hpe, _⟩ := (he2 (by omega)).1
        exact ((he2 (by omega)).2 (bef_closed R I.closed hi ((inOrder_spec hino hoe hpe (by omega)).1 h))).elim
    rw [hpf, hino] at hstep
    simp only [Bool.not_true, Bool.not_false, Bool.true_and, Bool.false_eq_true, if_false] at hstep
    split at hstep
    · rename_i v S1 h1
      have hT := (Option.some.inj hstep).symm
      have hS1 : (T P W C ops A S (i + 1)).2 = S1 := by rw [hT]
      have hpi : Post W φ0 S w0 φ (T P W C ops A S i).2 w := by rw [hie]; exact hp
      refine opStep_sound R.hC hpi.rel (hρ hpi.rel) (fun x h1 h2 => ?_) c1 c2 h1 _ _ fun φ' v' w' hv hpo => ?_
      · rw [← hS1] at h2
        cases hx : φ x with
        | none => rfl
        | some L => have := dom_loud hloud x L hx; omega
      · rw [← hS1] at hpo
        have hpost := hpi.trans hcS hci hpo
        refine make hpo.ext hv (by rw [hT]) (advance hie φ' w' hpost fun x L ex => ?_) fun x L ex => hpo.dom x L ex
        rcases hpo.dom x L ex with h | h
        · have := dom_loud hloud x L h; omega
        · exact .inl h.2
    · cases hstep
  · have hino : inOrder ops i = false := by simpa using hino
    have hnl : ¬ Loud ops i := fun hl => by
      obtain ⟨oi, hoi, _, h⟩ := hl
      rw [hino] at h; cases h
    have hie : i < e := by
      rcases Nat.lt_or_ge i e with h | h
      · exact h
      · rcases Nat.lt_or_ge e ops.size with h2 | h2
        · obtain ⟨oe, hoe, hpe, hine⟩ := (he2 h2).1
          have hne : i ≠ e := by rintro rfl; exact hnl (he2 h2).1
          exact ((he2 h2).2 (bef_closed R I.closed hi ((inOrder_spec hine ho hpf hne).2 (by omega)))).elim
        · omega
    have hq : ∀ m, i ≤ m → m < e → ¬ Loud ops m := by
      intro m h1 h2 hl
      have hT := he1 m h2 hl
      obtain ⟨om, hom, hpm, hinm⟩ := hl
      have hne : i ≠ m := by rintro rfl; exact hnl ⟨om, hom, hpm, hinm⟩
      exact hni (I.closed m hT i ((inOrder_spec hinm ho hpf hne).1 (by omega)))
    rw [hpf, hino] at hstep
    simp only [Bool.not_false, Bool.true_and, if_true] at hstep
    split at hstep
    · rename_i v S1 h1
      have hT := (Option.some.inj hstep).symm
      obtain ⟨S2, h2, hS2⟩ := unlock_spec h1
      have hS1 : (T P W C ops A S (i + 1)).2 = S2.relock (T P W C ops A S i).2.lock := by rw [hT]; exact hS2
      have hc2 : S2.c = (T P W C ops A S (i + 1)).2.c := by rw [hS1]; rfl
      have hr := Rel.shrink R (by omega : i ≤ e) he hq hp.rel
      refine opStep_sound R.hC hr (hρ hr) (fun x h1 h2 => ?_) c1 c2 h2 _ _ fun φ' v' w' hv hpo => ?_
      · have h1 : (T P W C ops A S i).2.c ≤ x := h1
        rw [hc2] at h2
        cases hx : φ x with
        | none => rfl
        | some L =>
          rcases I.dom x L hx with h | ⟨k, hk, hTk, k1, k2⟩
          · rw [hf x (by omega) (by omega)] at h; cases h
          · rcases Nat.lt_trichotomy k i with h | h | h
            · have := R.c_mono (show k + 1 ≤ i by omega) (by omega); omega
            · subst h; exact (hni hTk).elim
            · have := R.c_mono (show i + 1 ≤ k by omega) (by omega); omega
      · have hdom : ∀ x L, φ' x = some L → φ x = some L ∨ ((T P W C ops A S i).2.c ≤ x ∧ x < (T P W C ops A S (i + 1)).2.c) := fun x L ex => by
          rw [← hc2]; exact hpo.dom x L ex
        -- no block that was there is another
        have noT : ∀ b, ¬ Touch φ ((T P W C ops A S i).2.relock (T P W C ops A S i).2.c) b := by
          rintro b ⟨x, L, ex, eb, hl, hd⟩
          exact hd ((R.oks i (by omega)).2 x hl)
        have sameb : ∀ b, b < w.heap.size → w'.heap[b]? = w.heap[b]? := fun b hb => hpo.f1 b hb (noT b)
        have newb : ∀ x L, φ' x = some L → (T P W C ops A S i).2.c ≤ x → S2.heap x ≠ .dead → w.heap.size ≤ L.blk := fun x L ex hx hd => Nat.le_of_not_lt fun hlt => noT _ (hpo.f2 _ hlt ⟨x, L, ex, rfl, by
          have : S2.lock = (T P W C ops A S i).2.c := by
            have := (opStep_astep R.hA (relock_ok (R.oks i (by omega))) h2).lock
            exact this
          rw [this]; exact hx, hd⟩)
        have heap2 : ∀ x, x < (T P W C ops A S (i + 1)).2.c → (T P W C ops A S e).2.heap x = S2.heap x := fun x hx => by
          rw [R.quiets (by omega : i + 1 ≤ e) he (fun m h1 h2 => hq m (by omega) h2) hx, hS1]; rfl
        have rr := hp.rel
        have r2 := hpo.rel
        have hpost : Post W φ0 S w0 φ' (T P W C ops A S e).2 w' := by
          refine ⟨ELe.trans hp.ext hpo.ext, ⟨r2.below, r2.base, rr.lockN, rr.ok, rr.deadB, fun x L ex hx => ?_, fun x y Lx Ly ex ey hx hy hne dx dy => ?_⟩, fun x L ex => ?_, Nat.le_trans hp.size hpo.size, fun b hb ht => ?_, fun b hb ht => ?_⟩
          · rcases hdom x L ex with h | h
            · obtain ⟨b1, b2, b3⟩ := rr.blk x L h hx
              exact ⟨b1, Nat.lt_of_lt_of_le b2 hpo.size, (b3.heap (sameb _ b2)).mono hpo.ext⟩
            · rw [heap2 x h.2]; exact r2.blk x L ex hx
          · rcases hdom x Lx ex with h | h <;> rcases hdom y Ly ey with k | k
            · exact rr.inj x y Lx Ly h k hx hy hne dx dy
            · rw [heap2 y k.2] at dy
              have := newb y Ly ey k.1 dy
              have := (rr.blk x Lx h hx).2.1
              omega
            · rw [heap2 x h.2] at dx
              have := newb x Lx ex h.1 dx
              have := (rr.blk y Ly k hy).2.1
              omega
            · rw [heap2 x h.2] at dx
              rw [heap2 y k.2] at dy
              exact r2.inj x y Lx Ly ex ey hx hy hne dx dy
          · rcases hdom x L ex with h | h
            · exact hp.dom x L h
            · have := R.c_mono (show i + 1 ≤ e by omega) he
              exact .inr ⟨by omega, by omega⟩
          · rw [sameb b (Nat.lt_of_lt_of_le hb hp.size)]; exact hp.f1 b hb ht
          · obtain ⟨x, L, ex, eb, hl, hd⟩ := ht
            rcases hdom x L ex with h | h
            · exact hp.f2 b hb ⟨x, L, h, eb, hl, hd⟩
            · rw [heap2 x h.2] at hd
              have := newb x L ex h.1 hd
              have := hp.size
              omega
        exact make hpo.ext hv (by rw [hT]) ⟨e, he, (same_e (by omega)).1, (same_e (by omega)).2, hpost⟩ hdom
    · cases hstep

/-- Whatever order is taken. -/
theorem any_sound (R : Row P W C ops A S A' S') (hf : Free φ0 S.c S'.c) {Q : Exit → Act → World → Prop} (hQ : ∀ φ' a' w', ActRel W.heap.size φ' A' a' → Post W φ0 S w0 φ' S' w' → Q .normal a' w') :
    ∀ (fuel : Nat) (listed : Array Bool) (φ : Emb) (a : Act) (w : World), Inv (P := P) (W := W) (C := C) (ops := ops) (A := A) (S := S) φ0 w0 a0 listed φ a w → (List.range ops.size).countP (fun k => !listed.getD k false) ≤ fuel → wpAny P .any ops Q fuel listed a w := by
  have fin : ∀ (listed : Array Bool) (φ : Emb) (a : Act) (w : World), Inv (P := P) (W := W) (C := C) (ops := ops) (A := A) (S := S) φ0 w0 a0 listed φ a w → Region.ready .any ops listed = [] → Q .normal a w := by
    intro listed φ a w I hr
    have all : ∀ k, k < ops.size → Tm listed k := by
      intro k
      induction k using Nat.strongRecOn with
      | _ k ih =>
        intro hk
        refine Classical.byContradiction fun hn => ?_
        have : k ∈ Region.ready .any ops listed := by
          refine mem_ready.2 ⟨?_, ops[k], Array.getElem?_eq_getElem hk, fun e he hb => ?_⟩
          · unfold Tm at hn
            have hkl : k < listed.size := by rw [I.size]; exact hk
            simp only [Array.getD_eq_getD_getElem?, Array.getElem?_eq_getElem hkl, Option.getD_some] at hn ⊢
            simpa using hn
          · have hlt := ((regionOk_spec R.hreg).1 k _ (Array.getElem?_eq_getElem hk)).2 e he hb
            exact ih e.on hlt (by omega)
        rw [hr] at this
        cases this
    obtain ⟨e, he, he1, he2, hp⟩ := I.mem
    have hee : e = ops.size := by
      rcases Nat.lt_or_ge e ops.size with h | h
      · exact ((he2 h).2 (all e h)).elim
      · omega
    subst hee
    have hT := R.last
    rw [hT] at hp
    refine hQ φ a w ⟨⟨?_, fun i v hv => ?_⟩, ?_⟩ hp
    · have := (R.sizes (Nat.le_refl _)).1
      rw [hT] at this
      simp only [Array.length_toList]
      rw [this, I.tsz]
    · have key : VRel W.heap.size φ (A'.tmps.getD i undef) (a.tmps.getD i undef) := by
        rcases I.tmps i with ⟨k, o, h1, h2, h3, h4, h5⟩ | ⟨h1, h2⟩
        · have hk := (Array.getElem?_eq_some_iff.1 h2).1
          have := R.slot (i := k + 1) (j := ops.size) (by omega) (Nat.le_refl _) (t := i) (fun m o' m1 m2 ho' hd' => by
            have := h4 m o' (all m m2) ho' hd'
            omega)
          rw [hT] at this
          rw [this]; exact h5
        · have := R.slot (i := 0) (j := ops.size) (Nat.zero_le _) (Nat.le_refl _) (t := i) (fun m o' m1 m2 ho' hd' => h1 m o' (all m m2) ho' hd')
          rw [hT] at this
          rw [this]; exact h2
      rw [Array.getElem?_toList] at hv
      have hi := (Array.getElem?_eq_some_iff.1 hv).1
      have hsz : A'.tmps.size = a.tmps.size := by
        have := (R.sizes (Nat.le_refl _)).1
        rw [hT] at this
        rw [this, I.tsz]
      have hi' : i < a.tmps.size := by omega
      refine ⟨a.tmps[i], by rw [Array.getElem?_toList]; exact Array.getElem?_eq_getElem hi', ?_⟩
      simp only [Array.getD_eq_getD_getElem?, hv, Array.getElem?_eq_getElem hi', Option.getD_some] at key
      exact key
    · have := (R.sizes (Nat.le_refl _)).2
      rw [hT] at this
      rw [this]; exact I.dfr
  intro fuel
  induction fuel with
  | zero =>
    intro listed φ a w I hc
    have hr : Region.ready .any ops listed = [] := by
      refine List.eq_nil_iff_forall_not_mem.2 fun k hk => ?_
      obtain ⟨h0, o, ho, _⟩ := mem_ready.1 hk
      have hkn := (Array.getElem?_eq_some_iff.1 ho).1
      have hpos : 0 < (List.range ops.size).countP (fun k => !listed.getD k false) := List.countP_pos_iff.2 ⟨k, List.mem_range.2 hkn, by
        have hkl : k < listed.size := by rw [I.size]; exact hkn
        simp only [Array.getD_eq_getD_getElem?, Array.getElem?_eq_getElem hkl, Option.getD_some] at h0 ⊢
        rw [h0]; rfl⟩
      omega
    exact ⟨hr, fin listed φ a w I hr⟩
  | succ fuel ih =>
    intro listed φ a w I hc
    refine ⟨fun hr => fin listed φ a w I hr, fun i hi => inv_step R hf I hi fun φ' a' w' I' => ih _ φ' a' w' I' ?_⟩
    obtain ⟨h0, o, ho, _⟩ := mem_ready.1 hi
    have hin := (Array.getElem?_eq_some_iff.1 ho).1
    have hil : i < listed.size := by rw [I.size]; exact hin
    have : (List.range ops.size).countP (fun k => !(listed.setIfInBounds i true).getD k false) < (List.range ops.size).countP (fun k => !listed.getD k false) := by
      have e0 : listed.getD i false = false := by
        simp only [Array.getD_eq_getD_getElem?, Array.getElem?_eq_getElem hil, Option.getD_some] at h0 ⊢
        exact h0
      have key : ∀ l : List Nat, (l.countP fun k => !(listed.setIfInBounds i true).getD k false) ≤ (l.countP fun k => !listed.getD k false) ∧ (i ∈ l → (l.countP fun k => !(listed.setIfInBounds i true).getD k false) < (l.countP fun k => !listed.getD k false)) := by
        intro l
        induction l with
        | nil => exact ⟨Nat.le_refl _, fun h => by cases h⟩
        | cons x l ih =>
          simp only [List.countP_cons]
          by_cases hx : i = x
          · subst hx
            have e1 : (listed.setIfInBounds i true).getD i false = true := (tm_set hil).2 (.inl rfl)
            rw [e1, e0]
            simp only [Bool.not_true, Bool.not_false, Bool.false_eq_true, if_false, if_true]
            have := ih.1
            exact ⟨by omega, fun _ => by omega⟩
          · rw [getD_set_ne false hx]
            have := ih.1
            refine ⟨by split <;> omega, fun hm => ?_⟩
            have := ih.2 (by simpa [hx] using hm)
            split <;> omega
      exact (key _).2 (List.mem_range.2 hin)
    omega
end
end Go.Proofs.YtnnajiaaakkjfaaDoor.E
