/- One operation of the evaluator's is the operation of the model: values. -/
import Derived.Test.YtnnajiaaakkjfaaDoorE5
import Derived.Laws.BytesString
import Derived.Lib.ConvBytes
namespace Go.Proofs.YtnnajiaaakkjfaaDoor.E
open Go Go.RowKit
set_option linter.unusedVariables false

section
variable {P : Program} {W : World} {φ : Emb} {S : St} {w : World}

theorem still_und (t : TypeId) : still P (underlying t) = P.underlying t := by
  unfold underlying program
  rw [still_bind]
  simp only [still, Option.bind_some]
  cases P.underlying t <;> rfl
theorem still_info (t : TypeId) : still P (typeInfo t) = P.info? t := by
  unfold typeInfo program
  rw [still_bind]
  simp only [still, Option.bind_some]
  cases P.info? t <;> rfl
theorem still_size (t : TypeId) : still P (sizeOf t) = szOf P t := by
  unfold sizeOf szOf
  rw [still_bind, still_info]
  cases P.info? t <;> rfl

theorem eqGuard_const (op : BinOp) (t : TypeId) (x y x' y' : Operand) (a b : Value) (h : a ≠ .nilIface) : eqGuard op t x y a b = eqGuard op t x' y' a b := by
  unfold eqGuard
  cases a <;> first | exact (h rfl).elim | rfl | (cases b <;> rfl)

theorem notIface {a : Value} (h : flat a = true) : a ≠ .nilIface := fun e => by subst e; simp [flat, flat0] at h

theorem eqIn_nilish_left (n : Nat) {t : TypeId} {a b b' : Value} (ha : nilish a = true) (hb : VRel W.heap.size φ b b') {r : Bool} (e : still P (Op.equalIn (n + 1) t a b) = some r) : still P (Op.equalIn (n + 1) t a b') = some r := by
  simp only [Op.equalIn] at *
  rw [still_bind, still_und] at *
  cases hd : P.underlying t with
  | none => rw [hd] at e; cases e
  | some d =>
    rw [hd, Option.bind_some] at e
    rw [Option.bind_some]
    cases a <;> first | (simp [nilish] at ha; done) | skip
    case pointer p =>
      cases p with
      | some _ => simp [nilish] at ha
      | none =>
        cases hb <;> first | exact e | skip
        all_goals (cases d <;> first | exact e | (simp [still, unsupported, stuck] at e; done))
    case slice p l c =>
      cases p with
      | some _ => simp [nilish] at ha
      | none =>
        cases hb <;> first | exact e | skip
        all_goals (cases d <;> first | exact e | (simp [still, unsupported, stuck] at e; done))
    case map p =>
      cases p with
      | some _ => simp [nilish] at ha
      | none =>
        cases hb <;> first | exact e | skip
        all_goals (cases d <;> first | exact e | (simp [still, unsupported, stuck] at e; done))
    case nilFunc =>
      cases hb <;> first | exact e | skip
      all_goals (cases d <;> first | exact e | (simp [still, unsupported, stuck] at e; done))
theorem eqIn_nilish_right (n : Nat) {t : TypeId} {a a' b : Value} (hb : nilish b = true) (ha : VRel W.heap.size φ a a') {r : Bool} (e : still P (Op.equalIn (n + 1) t a b) = some r) : still P (Op.equalIn (n + 1) t a' b) = some r := by
  simp only [Op.equalIn] at *
  rw [still_bind, still_und] at *
  cases hd : P.underlying t with
  | none => rw [hd] at e; cases e
  | some d =>
    rw [hd, Option.bind_some] at e
    rw [Option.bind_some]
    cases b <;> first | (simp [nilish] at hb; done) | skip
    case pointer p =>
      cases p with
      | some _ => simp [nilish] at hb
      | none =>
        cases ha <;> first | exact e | skip
        all_goals (cases d <;> first | exact e | (simp [still, unsupported, stuck] at e; done))
    case slice p l c =>
      cases p with
      | some _ => simp [nilish] at hb
      | none =>
        cases ha <;> first | exact e | skip
        all_goals (cases d <;> first | exact e | (simp [still, unsupported, stuck] at e; done))
    case map p =>
      cases p with
      | some _ => simp [nilish] at hb
      | none =>
        cases ha <;> first | exact e | skip
        all_goals (cases d <;> first | exact e | (simp [still, unsupported, stuck] at e; done))
    case nilFunc =>
      cases ha <;> first | exact e | skip
      all_goals (cases d <;> first | exact e | (simp [still, unsupported, stuck] at e; done))

theorem eq_nilish_left {t : TypeId} {a b b' : Value} (ha : nilish a = true) (hb : VRel W.heap.size φ b b') {r : Bool} (e : still P (Op.equal t a b) = some r) : still P (Op.equal t a b') = some r := eqIn_nilish_left 9999 ha hb e
theorem eq_nilish_right {t : TypeId} {a a' b : Value} (hb : nilish b = true) (ha : VRel W.heap.size φ a a') {r : Bool} (e : still P (Op.equal t a b) = some r) : still P (Op.equal t a' b) = some r := eqIn_nilish_right 9999 hb ha e
theorem nilish_flat {a : Value} (h : nilish a = true) : flat a = true := by
  cases a with
  | pointer p => cases p <;> simp_all [nilish, flat, flat0]
  | slice p => cases p <;> simp_all [nilish, flat, flat0]
  | map p => cases p <;> simp_all [nilish, flat, flat0]
  | nilFunc => rfl
  | _ => simp [nilish] at h

end
end Go.Proofs.YtnnajiaaakkjfaaDoor.E
