/- Structures of plain parts are compared part by part. -/
import Derived.Test.YtnnajiaaakkjfaaDoorE25
namespace Go.Proofs.YtnnajiaaakkjfaaDoor.E
open Go Go.RowKit
set_option linter.unusedVariables false
section
variable {P : Program}
def andF : Option Bool → Option Bool → Option Bool
  | some true, r => r
  | some false, _ => some false
  | none, _ => none
def ptF (P : Program) (d : Nat) (t : TypeId) (o : Nat) (xs ys : Array Value) : Option Bool :=
  (still P (part t xs o)).bind fun x => (still P (part t ys o)).bind fun y => still P (Op.equalIn d t x y)
def eqF (P : Program) (d : Nat) (xs ys : Array Value) : List Field → Option Bool
  | [] => some true
  | f :: r => if f.name ≠ "_" then andF (ptF P d f.type f.offset xs ys) (eqF P d xs ys r) else eqF P d xs ys r
theorem eq_struct {t : TypeId} {fs : Array Field} (hu : P.underlying t = some (.struct fs)) (hs : P.stoodInHeld t = false) (d : Nat) (xs ys : Array Value) : still P (Op.equalIn (d + 1) t (.agg xs) (.agg ys)) = eqF P d xs ys fs.toList := by
  simp only [Op.equalIn]
  rw [still_bind, still_und, hu, Option.bind_some]
  dsimp only
  rw [still_bind]
  have e : still P program = some P := rfl
  rw [e, Option.bind_some, hs]
  simp only [Bool.false_eq_true, if_false, ← Array.forIn_toList]
  rw [still_bind]
  generalize fs.toList = l
  induction l with
  | nil => rfl
  | cons f r ih =>
    rw [List.forIn_cons, eqF]
    by_cases h : f.name ≠ "_"
    · rw [if_pos h, if_pos h]
      simp only [bind_assoc]
      rw [still_bind, ptF]
      cases still P (part f.type xs f.offset) with
      | none => rfl
      | some x =>
        simp only [Option.bind_some]
        rw [still_bind]
        cases still P (part f.type ys f.offset) with
        | none => rfl
        | some y =>
          simp only [Option.bind_some]
          rw [still_bind]
          cases still P (Op.equalIn d f.type x y) with
          | none => rfl
          | some b =>
            cases b
            · rfl
            · simp only [Option.bind_some, Bool.not_true, Bool.false_eq_true, if_false]
              exact ih
    · rw [if_neg h, if_neg h]
      exact ih
theorem bin_agg_neq {t : TypeId} {xs ys : Array Value} {b : Bool} (h1 : flat (.agg xs) = true) (h2 : flat (.agg ys) = true) (hg : still P (eqGuard .neq t (.const (.bool true)) (.const (.bool true)) (.agg xs) (.agg ys)) = some ()) (h : still P (Op.equalIn 10000 t (.agg xs) (.agg ys)) = some b) :
    aBin P .neq t (.agg xs) (.agg ys) = some (.bool (!b)) := by
  unfold aBin
  rw [if_pos (by rw [h1, h2]; rfl)]
  have e : still P (do eqGuard .neq t (.const (.bool true)) (.const (.bool true)) (.agg xs) (.agg ys); binOp .neq t (.agg xs) (.agg ys)) = some (.bool (!b)) := by
    rw [still_bind, hg, Option.bind_some]
    have e2 : binOp .neq t (.agg xs) (.agg ys) = (do pure (.bool (!(← Op.equal t (.agg xs) (.agg ys))))) := rfl
    rw [e2, still_bind]
    have e3 : still P (Op.equal t (.agg xs) (.agg ys)) = some b := h
    rw [e3]
    rfl
  unfold stillF
  rw [e]
  rfl
theorem bin_agg_eql {t : TypeId} {xs ys : Array Value} {b : Bool} (h1 : flat (.agg xs) = true) (h2 : flat (.agg ys) = true) (hg : still P (eqGuard .eql t (.const (.bool true)) (.const (.bool true)) (.agg xs) (.agg ys)) = some ()) (h : still P (Op.equalIn 10000 t (.agg xs) (.agg ys)) = some b) :
    aBin P .eql t (.agg xs) (.agg ys) = some (.bool b) := by
  unfold aBin
  rw [if_pos (by rw [h1, h2]; rfl)]
  have e : still P (do eqGuard .eql t (.const (.bool true)) (.const (.bool true)) (.agg xs) (.agg ys); binOp .eql t (.agg xs) (.agg ys)) = some (.bool b) := by
    rw [still_bind, hg, Option.bind_some]
    have e2 : binOp .eql t (.agg xs) (.agg ys) = (do pure (.bool (← Op.equal t (.agg xs) (.agg ys)))) := rfl
    rw [e2, still_bind]
    have e3 : still P (Op.equal t (.agg xs) (.agg ys)) = some b := h
    rw [e3]
    rfl
  unfold stillF
  rw [e]
  rfl
end
end Go.Proofs.YtnnajiaaakkjfaaDoor.E
