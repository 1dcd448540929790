/- A row of operations whose order is open: whichever way the model takes, what the evaluator answers in the order of the text comes of it. -/
import Derived.Test.YtnnajiaaakkjfaaDoorE13
namespace Go.Proofs.YtnnajiaaakkjfaaDoor.E
open Go Go.RowKit
set_option linter.unusedVariables false

/-! ### What an operation comes behind -/
theorem fold_bit (acc : List Nat) : ∀ (l : List Edge) (s j : Nat), (l.foldl (fun s e => if Region.binds .any e then s ||| 2 ^ e.on ||| acc.getD e.on 0 else s) s).testBit j = true →
    s.testBit j = true ∨ ∃ e ∈ l, Region.binds .any e = true ∧ (j = e.on ∨ (acc.getD e.on 0).testBit j = true)
  | [], s, j, h => .inl h
  | e :: l, s, j, h => by
    simp only [List.foldl_cons] at h
    rcases fold_bit acc l _ j h with h | ⟨e', he, hb, hj⟩
    · split at h
      · rename_i hb
        simp only [Nat.testBit_or, Bool.or_eq_true] at h
        rcases h with (h | h) | h
        · exact .inl h
        · rw [Nat.testBit_two_pow] at h
          exact .inr ⟨e, by simp, hb, .inl (by simpa using (of_decide_eq_true h).symm)⟩
        · exact .inr ⟨e, by simp, hb, .inr h⟩
      · exact .inl h
    · exact .inr ⟨e', by simp [he], hb, hj⟩
def befOf (o : Oper) (acc : List Nat) : Nat := o.after.toList.foldl (fun s e => if Region.binds .any e then s ||| 2 ^ e.on ||| acc.getD e.on 0 else s) 0
theorem befGo_cons (o : Oper) (l : List Oper) (acc : List Nat) : befGo (o :: l) acc = befGo l (acc ++ [befOf o acc]) := rfl
theorem befGo_take : ∀ (l : List Oper) (acc : List Nat), (befGo l acc).take acc.length = acc
  | [], acc => by simp [befGo]
  | o :: l, acc => by
    rw [befGo_cons]
    have := befGo_take l (acc ++ [befOf o acc])
    have h2 := congrArg (List.take acc.length) this
    rw [List.take_take, List.length_append, Nat.min_eq_left (by omega), List.take_left' rfl] at h2
    exact h2
theorem befGo_get : ∀ (l : List Oper) (acc : List Nat) (k : Nat) (o : Oper), l[k]? = some o → (befGo l acc)[acc.length + k]? = some (befOf o ((befGo l acc).take (acc.length + k)))
  | [], acc, k, o, h => by simp at h
  | o' :: l, acc, 0, o, h => by
    simp at h
    subst h
    rw [Nat.add_zero, befGo_take]
    rw [befGo_cons]
    have := befGo_take l (acc ++ [befOf o' acc])
    have h2 : ((befGo l (acc ++ [befOf o' acc])).take (acc ++ [befOf o' acc]).length)[acc.length]? = some (befOf o' acc) := by rw [this]; simp
    rw [List.getElem?_take, List.length_append] at h2
    simpa using h2
  | o' :: l, acc, k + 1, o, h => by
    have := befGo_get l (acc ++ [befOf o' acc]) k o (by simpa using h)
    rw [List.length_append, List.length_singleton, show acc.length + 1 + k = acc.length + (k + 1) by omega] at this
    rw [befGo_cons]
    exact this

section
variable {P : Program} {W : World} {C : Caller} {ops : Array Oper}

def B (ops : Array Oper) (k : Nat) : Nat := (bef ops.toList).getD k 0

theorem bef_spec (hback : ∀ (k : Nat) (o : Oper), ops[k]? = some o → ∀ e ∈ o.after, Region.binds .any e = true → e.on < k) {k j : Nat} {o : Oper} (ho : ops[k]? = some o) (h : (B ops k).testBit j = true) :
    ∃ e ∈ o.after, Region.binds .any e = true ∧ (j = e.on ∨ (B ops e.on).testBit j = true) := by
  have hg := befGo_get ops.toList [] k o (by rw [Array.getElem?_toList]; exact ho)
  simp only [List.length_nil, Nat.zero_add] at hg
  unfold B bef at h
  rw [List.getD_eq_getElem?_getD, hg, Option.getD_some] at h
  rcases fold_bit _ _ _ _ h with h | ⟨e, he, hb, hj⟩
  · simp at h
  · have he := Array.mem_toList_iff.1 he
    refine ⟨e, he, hb, hj.imp id fun hj => ?_⟩
    have hlt := hback k o ho e he hb
    unfold B bef
    rw [List.getD_eq_getElem?_getD] at hj ⊢
    rw [List.getElem?_take, if_pos hlt] at hj
    exact hj

theorem regionOk_spec (h : regionOk ops = true) : (∀ (k : Nat) (o : Oper), ops[k]? = some o → (isSelect o.op = false) ∧ ∀ e ∈ o.after, Region.binds .any e = true → e.on < k) ∧
    (∀ (i j : Nat) (p o : Oper), i < j → ops[i]? = some p → ops[j]? = some o → clash ops p o = true → (B ops j).testBit i = true) := by
  unfold regionOk at h
  simp only [Bool.and_eq_true, List.all_eq_true] at h
  obtain ⟨h1, h2⟩ := h
  have mem : ∀ (k : Nat) (o : Oper), ops[k]? = some o → (o, k) ∈ ops.toList.zipIdx := by
    intro k o ho
    rw [List.mem_zipIdx_iff_getElem?, Array.getElem?_toList]
    exact ho
  refine ⟨fun k o ho => ?_, fun i j p o hij hp ho hc => ?_⟩
  · have := h1 _ (mem k o ho)
    simp only [Bool.not_eq_true'] at this
    refine ⟨this.1, fun e he hb => ?_⟩
    have := this.2 e (Array.mem_toList_iff.2 he)
    simpa [hb] using this
  · have := h2 _ (mem j o ho) _ (mem i p hp)
    simpa [hij, hc, B] using this

theorem inOrder_spec {k : Nat} (h : inOrder ops k = true) {j : Nat} {o : Oper} (ho : ops[j]? = some o) (hp : pureOp o.op = false) (hne : j ≠ k) : (j < k → (B ops k).testBit j = true) ∧ (k < j → (B ops j).testBit k = true) := by
  unfold inOrder at h
  simp only [List.all_eq_true] at h
  have := h (o, j) (by rw [List.mem_zipIdx_iff_getElem?, Array.getElem?_toList]; exact ho)
  simp only [hp, Bool.false_or, Bool.or_eq_true, beq_iff_eq] at this
  have := this.resolve_left (fun e => hne e.symm)
  refine ⟨fun hlt => ?_, fun hlt => ?_⟩
  · rw [if_pos hlt] at this; exact this
  · rw [if_neg (by omega)] at this; exact this

theorem pure_same {ρ : Operand → Value} {o : Oper} {S S' : St} {v : Value} (hp : pureOp o.op = true) (e : opStep P W C ρ o S = some (v, S')) : S' = S ∧ ∀ S1, opStep P W C ρ o S1 = some (v, S1) := by
  obtain ⟨dst, op, ty, pos, after, guard⟩ := o
  have jv : ∀ {x : Option Value}, justV x S = some (v, S') → S' = S ∧ ∀ S1, justV x S1 = some (v, S1) := fun h => by
    obtain ⟨a, b⟩ := justV_spec h
    subst a
    exact ⟨b, fun _ => rfl⟩
  cases op <;> first | (simp [pureOp] at hp; done) | exact jv e | (simp only [opStep] at e ⊢; cases e; exact ⟨rfl, fun _ => rfl⟩) | skip
  case call c =>
    obtain ⟨cal, args, ts⟩ := c
    cases cal with
    | value f => simp [pureOp] at hp
    | invoke r m => simp [pureOp] at hp
    | builtin b =>
      cases b <;> first | (simp [pureOp] at hp; done) | skip
      all_goals
        simp only [opStep, aBuiltin] at e ⊢
        split at e
        · rename_i hc
          obtain ⟨a, b⟩ := jv e
          exact ⟨a, fun S1 => by first | (rw [if_pos hc]; exact b S1) | exact b S1⟩
        · cases e

/-! ### The way of the text -/
def tr (P : Program) (W : World) (C : Caller) (ops : Array Oper) (l : List (Oper × Bool)) (x0 : Act × St) : Nat → Act × St
  | 0 => x0
  | k + 1 => match l[k]? with | none => tr P W C ops l x0 k | some x => (stepC P W C ops x (tr P W C ops l x0 k)).getD (tr P W C ops l x0 k)

theorem tr_ok {l : List (Oper × Bool)} {x0 r : Act × St} (e : opsC P W C ops l x0.1 x0.2 = some r) :
    (∀ (k : Nat) (x : Oper × Bool), l[k]? = some x → stepC P W C ops x (tr P W C ops l x0 k) = some (tr P W C ops l x0 (k + 1))) ∧ tr P W C ops l x0 l.length = r := by
  have key : ∀ k, k ≤ l.length → opsC P W C ops (l.drop k) (tr P W C ops l x0 k).1 (tr P W C ops l x0 k).2 = some r ∧ (∀ (j : Nat) (x : Oper × Bool), j < k → l[j]? = some x → stepC P W C ops x (tr P W C ops l x0 j) = some (tr P W C ops l x0 (j + 1))) := by
    intro k
    induction k with
    | zero => intro _; exact ⟨by rw [List.drop_zero]; exact e, fun j x hj => by omega⟩
    | succ k ih =>
      intro hk
      obtain ⟨ih1, ih2⟩ := ih (by omega)
      have hx : l[k]? = some (l[k]'(by omega)) := List.getElem?_eq_getElem (by omega)
      rw [List.drop_eq_getElem_cons (by omega : k < l.length), opsC_cons] at ih1
      cases hs : stepC P W C ops (l[k]'(by omega)) (tr P W C ops l x0 k) with
      | none =>
        have : stepC P W C ops (l[k]'(by omega)) ((tr P W C ops l x0 k).1, (tr P W C ops l x0 k).2) = none := hs
        rw [this] at ih1; cases ih1
      | some q =>
        have h1 : stepC P W C ops (l[k]'(by omega)) ((tr P W C ops l x0 k).1, (tr P W C ops l x0 k).2) = some q := hs
        rw [h1] at ih1
        have hq : tr P W C ops l x0 (k + 1) = q := by
          simp only [tr, hx, hs]
          rfl
        refine ⟨by rw [hq]; exact ih1, fun j x hj hjx => ?_⟩
        by_cases hjk : j = k
        · subst hjk
          rw [hx] at hjx
          cases hjx
          rw [hs, hq]
        · exact ih2 j x (by omega) hjx
  refine ⟨fun k x hx => (key l.length (Nat.le_refl _)).2 k x (List.getElem?_eq_some_iff.1 hx).1 hx, ?_⟩
  have := (key l.length (Nat.le_refl _)).1
  rw [List.drop_length] at this
  simp only [opsC, Option.some.injEq] at this
  exact this
end
end Go.Proofs.YtnnajiaaakkjfaaDoor.E
