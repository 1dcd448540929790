/- More words: memories locked and unlocked, function values, tests of two tests. -/
import Derived.Test.YtnnajiaaakkjfaaDoorE29
namespace Go.Proofs.YtnnajiaaakkjfaaDoor.E
open Go Go.RowKit
set_option linter.unusedVariables false
theorem relock2 (S : St) (a b : Nat) : (S.relock a).relock b = S.relock b := rfl
theorem relock_id {S : St} {l : Nat} (h : l = S.lock) : S.relock l = S := by subst h; rfl
theorem Gd.relock2 {W : World} {S : St} {k : Nat} (g : Gd W S) (h : k = S.c) : Gd W (S.relock k) := by subst h; exact g.relock
theorem pick_or2 (b c : Bool) : aPick (.bool !b) (.bool true) (wV b (.bool c)) = some (.bool (!b || c)) := by cases b <;> rfl
theorem pick_and2 (b c : Bool) : aPick (.bool !b) (wV (!b) (.bool c)) (.bool false) = some (.bool (!b && c)) := by cases b <;> rfl
theorem nat_eq_id {a b : Nat} (h : a = b) : a = b := h
@[simp] theorem storable_func (f : Fn) (a b : Array Value) : storable (.func f a b) = true := rfl
@[simp] theorem cells_func (f : Fn) (a b : Array Value) : (Value.func f a b).cells = #[.func f a b] := rfl
@[simp] theorem box_func {S : St} (f : Fn) (a b : Array Value) : aBox S (.func f a b) = some (.pointer (some ⟨S.c, 0, none⟩), S.new (.row [.func f a b] 0)) := rfl
@[simp] theorem bne_ff : (false != false) = false := rfl
@[simp] theorem bne_tt : (true != true) = false := rfl
@[simp] theorem bne_tf : (true != false) = true := rfl
@[simp] theorem bne_ft : (false != true) = true := rfl
@[simp] theorem beq_tt : (true == true) = true := rfl
@[simp] theorem beq_ff : (false == false) = true := rfl
section
variable {α : Type} {T : Enc α} {P : Program} {W : World} {S S' : St}
/-- A closed slice's block, for the arguments of calls. -/
theorem Rd.vlt {v : Value} {l : List α} (h : Rd T W S v l) : vlt1 S.c v = true := h.1
end
end Go.Proofs.YtnnajiaaakkjfaaDoor.E
