/- Stepping through a function's text by simp: nothing behind a step is looked at before the step is reckoned. -/
import Derived.Test.YtnnajiaaakkjfaaDoorE21
namespace Go.Proofs.YtnnajiaaakkjfaaDoor.E
open Go Go.RowKit
set_option linter.unusedVariables false

section
variable {β : Type}
@[congr] theorem bindV_congr {x y : Option Value} (h : x = y) (k : Value → Option β) : bindV x k = bindV y k := by rw [h]
@[congr] theorem bindS_congr {x y : Option (Value × St)} (h : x = y) (k : Value → St → Option β) : bindS x k = bindS y k := by rw [h]
@[congr] theorem bindT_congr {x y : Option St} (h : x = y) (k : St → Option β) : bindT x k = bindT y k := by rw [h]
@[congr] theorem bindO_congr {x y : Out} (h : x = y) (k : Exit → Act → St → Option β) : bindO x k = bindO y k := by rw [h]
@[congr] theorem condK_congr {v w : Value} (h : v = w) (t e : Option β) : condK v t e = condK w t e := by rw [h]
@[congr] theorem gV_congr {v w : Value} (h : v = w) (b : Bool) (k : Bool → Option β) : gV v b k = gV w b k := by rw [h]
/-- A guard that is met. -/
def IsT (b : Bool) : Prop := b = true
theorem isT_of {b : Bool} (h : b = true) : IsT b := h
@[congr] theorem wO_congr {g g' : Bool} {x y : Option Value} (h : g = g') (h2 : IsT g' → x = y) : wO g x = wO g' y := by
  subst h
  cases g
  · rfl
  · exact h2 rfl
@[congr] theorem wS_congr {g g' : Bool} (S : St) {x y : Option (Value × St)} (h : g = g') (h2 : IsT g' → x = y) : wS g S x = wS g' S y := by
  subst h
  cases g
  · rfl
  · exact h2 rfl
@[congr] theorem wT_congr {g g' : Bool} (h : g = g') (S : St) (x : Option St) : wT g S x = wT g' S x := by rw [h]
end
theorem gV_tt {β : Type} (k : Bool → Option β) : gV (.bool true) true k = k true := rfl
theorem gV_tf {β : Type} (k : Bool → Option β) : gV (.bool true) false k = k false := rfl
theorem gV_ft {β : Type} (k : Bool → Option β) : gV (.bool false) true k = k false := rfl
theorem gV_ff {β : Type} (k : Bool → Option β) : gV (.bool false) false k = k true := rfl
@[simp] theorem bff : (false == true) = false := rfl
@[simp] theorem bft : (true == false) = false := rfl
@[simp] theorem qS_true (S : St) (f : St → Option (Value × St)) : qS true S f = unlock S.lock (f (S.relock S.c)) := rfl
@[simp] theorem unlock_some (l : Nat) (v : Value) (S : St) : unlock l (some (v, S)) = some (v, S.relock l) := rfl

/-! Memory read at names -/
def nth : List Value → Nat → Option Value
  | [], _ => none
  | v :: _, 0 => some v
  | _ :: vs, n + 1 => nth vs n
@[simp] theorem nth_zero (v : Value) (vs : List Value) : nth (v :: vs) 0 = some v := rfl
@[simp] theorem nth_succ (v : Value) (vs : List Value) (n : Nat) : nth (v :: vs) (n + 1) = nth vs n := rfl
theorem nth_eq (vs : List Value) (n : Nat) : nth vs n = vs[n]? := by
  induction vs generalizing n with
  | nil => rfl
  | cons v vs ih => cases n with
    | zero => rfl
    | succ n => rw [nth_succ, ih]; rfl
def cellOf : AObj → Nat → Option Value
  | .row cs _, o => nth cs o
  | _, _ => none
def cellsOf : AObj → Nat → Nat → Option (List Value)
  | .row cs _, o, n => if o + n ≤ cs.length then some ((cs.drop o).take n) else none
  | _, _, _ => none
def putOf (S : St) (b o : Nat) (vs : List Value) : AObj → Option St
  | .row cs k => if o + vs.length ≤ cs.length then (if vs.all storable then some (S.upd b (.row (splice cs o vs) k)) else none) else none
  | _ => none
@[simp] theorem cellOf_row (cs : List Value) (k o : Nat) : cellOf (.row cs k) o = nth cs o := rfl
@[simp] theorem cellsOf_row (cs : List Value) (k o n : Nat) : cellsOf (.row cs k) o n = if o + n ≤ cs.length then some ((cs.drop o).take n) else none := rfl
@[simp] theorem putOf_row (S : St) (b o : Nat) (vs cs : List Value) (k : Nat) : putOf S b o vs (.row cs k) = if o + vs.length ≤ cs.length then (if vs.all storable then some (S.upd b (.row (splice cs o vs) k)) else none) else none := rfl
section
variable {P : Program} {W : World} {S : St}
theorem cell_at {b : Nat} (h : W.heap.size ≤ b) (o : Nat) : S.cell W ⟨b, o, none⟩ = cellOf (S.heap b) o := by
  unfold St.cell cellOf
  rw [if_neg (by dsimp only; omega)]
  dsimp only
  cases S.heap b <;> first | rfl | exact (nth_eq _ _).symm
theorem ex_nth (vs : List Value) (i : Nat) : still P (Instr.extract (.tuple vs.toArray) i) = nth vs i := by rw [ex_tuple, nth_eq, List.getElem?_toArray]
theorem cells_at {b : Nat} (h : W.heap.size ≤ b) (o : Nat) {n : Nat} (hn : 0 < n) : S.cells W ⟨b, o, none⟩ n = cellsOf (S.heap b) o n := by
  unfold St.cells cellsOf
  rw [if_neg (by omega), if_neg (by dsimp only; omega)]
  dsimp only
  cases S.heap b <;> rfl
theorem put_at {b : Nat} (h : S.lock ≤ b) (o : Nat) {vs : List Value} (hn : 0 < vs.length) : S.put ⟨b, o, none⟩ vs = putOf S b o vs (S.heap b) := by
  unfold St.put putOf
  rw [if_neg (by omega), if_pos h]
  dsimp only
  cases S.heap b <;> rfl
theorem new_at (o : AObj) {i : Nat} (h : i ≤ S.c) (h2 : S.c ≤ i) : (S.new o).heap i = o := if_pos (Nat.le_antisymm h h2)
@[simp] theorem relock_heap (l : Nat) : (S.relock l).heap = S.heap := rfl
@[simp] theorem relock_c (l : Nat) : (S.relock l).c = S.c := rfl
@[simp] theorem relock_lock (l : Nat) : (S.relock l).lock = l := rfl
theorem relock_new (o : AObj) : ((S.relock S.c).new o).relock S.lock = S.new o := rfl
@[simp] theorem splice_nil (cs : List Value) (o : Nat) : splice cs o [] = cs := rfl
@[simp] theorem splice_cons (cs : List Value) (o : Nat) (v : Value) (vs : List Value) : splice cs o (v :: vs) = splice (cs.set o v) (o + 1) vs := rfl
@[simp] theorem cells_agg (a : Array Value) : (Value.agg a).cells = a := rfl
@[simp] theorem cells_int (k : IntKind) (i : Int) : (Value.int k i).cells = #[.int k i] := rfl
@[simp] theorem cells_bool (b : Bool) : (Value.bool b).cells = #[.bool b] := rfl
@[simp] theorem cells_string (s : ByteArray) : (Value.string s).cells = #[.string s] := rfl
@[simp] theorem cells_pointer (a : Option Addr) : (Value.pointer a).cells = #[.pointer a] := rfl
@[simp] theorem cells_slice (a : Option Addr) (n c : Nat) : (Value.slice a n c).cells = #[.slice a n c] := rfl
@[simp] theorem notJ_agg (a : Array Value) : notJ (.agg a) = true := rfl
@[simp] theorem notJ_int (k : IntKind) (i : Int) : notJ (.int k i) = true := rfl
@[simp] theorem notJ_bool (b : Bool) : notJ (.bool b) = true := rfl
@[simp] theorem notJ_string (b : ByteArray) : notJ (.string b) = true := rfl
@[simp] theorem notJ_pointer (a : Option Addr) : notJ (.pointer a) = true := rfl
@[simp] theorem notJ_slice (a : Option Addr) (n c : Nat) : notJ (.slice a n c) = true := rfl
@[simp] theorem storable_int (k : IntKind) (i : Int) : storable (.int k i) = true := rfl
@[simp] theorem storable_bool (b : Bool) : storable (.bool b) = true := rfl
@[simp] theorem storable_string (s : ByteArray) : storable (.string s) = true := rfl
@[simp] theorem storable_pointer (a : Option Addr) : storable (.pointer a) = true := rfl
@[simp] theorem storable_slice (a : Option Addr) (n c : Nat) : storable (.slice a n c) = true := rfl
theorem call_fn {C : Caller} {g : FuncId} (h : callOk P g = true) (S : St) (args : Array Value) : aCall P C S (.func (.func g) #[] #[]) args = C g args S := by
  simp only [aCall, h, if_true]
  congr 1
  simp
@[simp] theorem un_compl32 (x : Int) : aUn P .xor (.int .u32 x) = some (.int .u32 (Go.bits .xor .u32 IntKind.u32.max x)) := rfl
theorem wrap64 {x : Int} (h1 : -9223372036854775808 ≤ x) (h2 : x < 9223372036854775808) : IntKind.i64.wrap x = x := by
  have e : IntKind.i64.wrap x = if x % 18446744073709551616 ≥ 9223372036854775808 then x % 18446744073709551616 - 18446744073709551616 else x % 18446744073709551616 := by
    unfold IntKind.wrap
    rw [show IntKind.i64.signed = true from rfl, show IntKind.i64.bits = 64 from rfl]
    simp
  rw [e]
  split <;> omega
theorem wrapu64 {x : Int} (h1 : 0 ≤ x) (h2 : x < 18446744073709551616) : IntKind.u64.wrap x = x := by
  have e : IntKind.u64.wrap x = x % 18446744073709551616 := by
    unfold IntKind.wrap
    rw [show IntKind.u64.signed = false from rfl, show IntKind.u64.bits = 64 from rfl]
    simp
  rw [e]; omega
theorem wrapu32 {x : Int} (h1 : 0 ≤ x) (h2 : x < 4294967296) : IntKind.u32.wrap x = x := by
  have e : IntKind.u32.wrap x = x % 4294967296 := by
    unfold IntKind.wrap
    rw [show IntKind.u32.signed = false from rfl, show IntKind.u32.bits = 32 from rfl]
    simp
  rw [e]; omega
theorem wrapu8 {x : Int} (h1 : 0 ≤ x) (h2 : x < 256) : IntKind.u8.wrap x = x := by
  have e : IntKind.u8.wrap x = x % 256 := by
    unfold IntKind.wrap
    rw [show IntKind.u8.signed = false from rfl, show IntKind.u8.bits = 8 from rfl]
    simp
  rw [e]; omega
theorem Gd.new (h : Gd W S) {o : AObj} (ho : objLt (S.c + 1) o = true) : Gd W (S.new o) := Ext.good (Ext.new h.ok ho (D := [])) h
theorem load_agg {t : TypeId} {d : TypeDesc} {n : Nat} (hu : P.underlying t = some d) (hd : (match d with | .struct _ | .array _ _ => true | _ => false) = true) (hn : szOf P t = some n) (a : Addr) {l : List Value} (h : S.cells W a n = some l) :
    aLoad P W S t (.pointer (some a)) = some (.agg l.toArray) := by
  cases d <;> simp only [aLoad, hu, hn, h] <;> first | rfl | cases hd
theorem load_one {t : TypeId} {d : TypeDesc} (hu : P.underlying t = some d) (hd : (match d with | .struct _ | .array _ _ => true | _ => false) = false) (a : Addr) :
    aLoad P W S t (.pointer (some a)) = S.cell W a := by
  cases d <;> simp only [aLoad, hu] <;> first | rfl | cases hd
@[simp] theorem box_agg (a : Array Value) : aBox S (.agg a) = some (.pointer (some ⟨S.c, 0, none⟩), S.new (.row a.toList 0)) := rfl
@[simp] theorem box_int (k : IntKind) (i : Int) : aBox S (.int k i) = some (.pointer (some ⟨S.c, 0, none⟩), S.new (.row [.int k i] 0)) := rfl
@[simp] theorem box_bool (i : Bool) : aBox S (.bool i) = some (.pointer (some ⟨S.c, 0, none⟩), S.new (.row [.bool i] 0)) := rfl
@[simp] theorem box_string (i : ByteArray) : aBox S (.string i) = some (.pointer (some ⟨S.c, 0, none⟩), S.new (.row [.string i] 0)) := rfl
@[simp] theorem box_slice (x : Option Addr) (n c : Nat) : aBox S (.slice x n c) = some (.pointer (some ⟨S.c, 0, none⟩), S.new (.row [.slice x n c] 0)) := rfl
@[simp] theorem box_pointer (x : Option Addr) : aBox S (.pointer x) = some (.pointer (some ⟨S.c, 0, none⟩), S.new (.row [.pointer x] 0)) := rfl
theorem put_cons {b : Nat} (h : S.lock ≤ b) (o : Nat) (v : Value) (vs : List Value) : S.put ⟨b, o, none⟩ (v :: vs) = putOf S b o (v :: vs) (S.heap b) := put_at h o (Nat.succ_pos _)
def aggOf : Option (List Value) → Option Value
  | some l => some (.agg l.toArray)
  | none => none
@[simp] theorem aggOf_some (l : List Value) : aggOf (some l) = some (.agg l.toArray) := rfl
theorem index_arr {t e : TypeId} {m n : Nat} (h : P.underlying t = some (.array m e)) (hs : szOf P e = some n) {a : Addr} {k : IntKind} {i : Int} (h0 : 0 ≤ i) (h1 : i < m) :
    aIndexAddr P t (.pointer (some a)) (.int k i) = some (.pointer (some (a.add (i.toNat * n)))) := by
  simp only [aIndexAddr, h, hs, if_pos (And.intro h0 h1)]
theorem len_str {t : TypeId} (h : P.underlying t = some .string) (S : St) (s : ByteArray) : aLen P W S #[t] #[.string s] = some (.int .i64 s.size) := by
  have h0 : aLen P W S #[t] #[.string s] = stillF P (Builtin.len_ #[t] 0 #[.string s]) := rfl
  rw [h0]
  have : still P (Builtin.len_ #[t] 0 #[.string s]) = some (.int .i64 s.size) := by
    show still P (do match ← underlying t, (.string s : Value) with
      | .string, .string s => pure (goInt s.size)
      | .array n _, _ => pure (goInt n)
      | .pointer arr, _ => do
        let .array n _ ← underlying arr | stuck "len: pointer to array expected"
        pure (goInt n)
      | .slice _, .slice _ n _ => pure (goInt n)
      | .map _ _, .map none | .chan _ _, .chan none => pure (goInt 0)
      | .map _ _, .map (some r) => do
        let .map entries _ ← getObj r | stuck "len: map expected"
        pure (goInt entries.size)
      | .chan _ _, .chan (some r) => do
        let .chan _ buf _ _ _ timer ← getObj r | stuck "len: channel expected"
        pure (goInt (if timer then 0 else buf.size))
      | _, _ => stuck "len: string, array, pointer to array, slice, map or channel expected") = _
    rw [still_bind, still_und, h, Option.bind_some]
    rfl
  unfold stillF
  rw [this]
  rfl
end
end Go.Proofs.YtnnajiaaakkjfaaDoor.E
