/- Words for what is laid out: each operation at values that are known. -/
import Derived.Test.YtnnajiaaakkjfaaDoorE19
import Derived.Laws.Entries
import Derived.Laws.Strings
namespace Go.Proofs.YtnnajiaaakkjfaaDoor.E
open Go Go.RowKit
set_option linter.unusedVariables false

section
variable {β : Type}
@[simp] theorem bindV_some (v : Value) (k : Value → Option β) : bindV (some v) k = k v := rfl
@[simp] theorem bindS_some (v : Value) (S : St) (k : Value → St → Option β) : bindS (some (v, S)) k = k v S := rfl
@[simp] theorem bindT_some (S : St) (k : St → Option β) : bindT (some S) k = k S := rfl
@[simp] theorem bindO_some (e : Exit) (A : Act) (S : St) (k : Exit → Act → St → Option β) : bindO (some (e, A, S)) k = k e A S := rfl
@[simp] theorem condK_true (t e : Option β) : condK (.bool true) t e = t := rfl
@[simp] theorem condK_false (t e : Option β) : condK (.bool false) t e = e := rfl
@[simp] theorem gV_bool (b w : Bool) (k : Bool → Option β) : gV (.bool b) w k = k (b == w) := rfl
@[simp] theorem gV_undef (w : Bool) (k : Bool → Option β) : gV undef w k = k false := rfl
@[simp] theorem wV_true (v : Value) : wV true v = v := rfl
@[simp] theorem wV_false (v : Value) : wV false v = undef := rfl
@[simp] theorem wO_true (x : Option Value) : wO true x = x := rfl
@[simp] theorem wO_false (x : Option Value) : wO false x = some undef := rfl
@[simp] theorem wS_true (S : St) (x : Option (Value × St)) : wS true S x = x := rfl
@[simp] theorem wS_false (S : St) (x : Option (Value × St)) : wS false S x = some (undef, S) := rfl
@[simp] theorem wT_true (S : St) (x : Option St) : wT true S x = x := rfl
@[simp] theorem wT_false (S : St) (x : Option St) : wT false S x = some S := rfl
end

section
variable {P : Program} {W : World}

/-! Whole numbers -/
@[simp] theorem bin_add (t : TypeId) (k : IntKind) (x y : Int) : aBin P .add t (.int k x) (.int k y) = some (.int k (k.wrap (x + y))) := by cases k <;> rfl
@[simp] theorem bin_sub (t : TypeId) (k : IntKind) (x y : Int) : aBin P .sub t (.int k x) (.int k y) = some (.int k (k.wrap (x - y))) := by cases k <;> rfl
@[simp] theorem bin_mul (t : TypeId) (k : IntKind) (x y : Int) : aBin P .mul t (.int k x) (.int k y) = some (.int k (k.wrap (x * y))) := by cases k <;> rfl
theorem bin_quo (t : TypeId) (k : IntKind) (x y : Int) (h : y ≠ 0) : aBin P .quo t (.int k x) (.int k y) = some (.int k (k.wrap (x.tdiv y))) := by
  have : aBin P .quo t (.int k x) (.int k y) = stillF P (Op.intDiv .quo k x y) := by cases k <;> rfl
  rw [this]
  unfold Op.intDiv
  rw [if_neg h]
  rfl
theorem bin_rem (t : TypeId) (k : IntKind) (x y : Int) (h : y ≠ 0) : aBin P .rem t (.int k x) (.int k y) = some (.int k (x.tmod y)) := by
  have : aBin P .rem t (.int k x) (.int k y) = stillF P (Op.intDiv .rem k x y) := by cases k <;> rfl
  rw [this]
  unfold Op.intDiv
  rw [if_neg h]
  rfl
@[simp] theorem bin_lss (t : TypeId) (k : IntKind) (x y : Int) : aBin P .lss t (.int k x) (.int k y) = some (.bool (decide (x < y))) := by cases k <;> rfl
@[simp] theorem bin_leq (t : TypeId) (k : IntKind) (x y : Int) : aBin P .leq t (.int k x) (.int k y) = some (.bool (decide (x ≤ y))) := by cases k <;> rfl
@[simp] theorem bin_gtr (t : TypeId) (k : IntKind) (x y : Int) : aBin P .gtr t (.int k x) (.int k y) = some (.bool (decide (y < x))) := by cases k <;> rfl
@[simp] theorem bin_geq (t : TypeId) (k : IntKind) (x y : Int) : aBin P .geq t (.int k x) (.int k y) = some (.bool (decide (y ≤ x))) := by cases k <;> rfl
@[simp] theorem bin_eql (t : TypeId) (k : IntKind) (x y : Int) : aBin P .eql t (.int k x) (.int k y) = some (.bool (decide (x = y))) := by
  have : aBin P .eql t (.int k x) (.int k y) = some (.bool (x == y)) := by cases k <;> rfl
  rw [this]; congr 2
@[simp] theorem bin_neq (t : TypeId) (k : IntKind) (x y : Int) : aBin P .neq t (.int k x) (.int k y) = some (.bool (!decide (x = y))) := by
  have : aBin P .neq t (.int k x) (.int k y) = some (.bool (x != y)) := by cases k <;> rfl
  rw [this]; congr 2
@[simp] theorem bin_and (t : TypeId) (k : IntKind) (x y : Int) : aBin P .and t (.int k x) (.int k y) = some (.int k (Go.bits .and k x y)) := by cases k <;> rfl
@[simp] theorem bin_or (t : TypeId) (k : IntKind) (x y : Int) : aBin P .or t (.int k x) (.int k y) = some (.int k (Go.bits .or k x y)) := by cases k <;> rfl
@[simp] theorem bin_xor (t : TypeId) (k : IntKind) (x y : Int) : aBin P .xor t (.int k x) (.int k y) = some (.int k (Go.bits .xor k x y)) := by cases k <;> rfl
@[simp] theorem bin_andNot (t : TypeId) (k : IntKind) (x y : Int) : aBin P .andNot t (.int k x) (.int k y) = some (.int k (Go.bits .andNot k x y)) := by cases k <;> rfl
theorem bin_shl (t : TypeId) (k k' : IntKind) (x y : Int) (h : ¬ y < 0) : aBin P .shl t (.int k x) (.int k' y) = some (.int k (k.wrap (x * 2 ^ min y.toNat k.bits))) := by
  have : aBin P .shl t (.int k x) (.int k' y) = stillF P (Op.shift .shl k x k' y) := by cases k <;> cases k' <;> rfl
  rw [this]
  unfold Op.shift
  rw [if_neg h]
  rfl
theorem bin_shr (t : TypeId) (k k' : IntKind) (x y : Int) (h : ¬ y < 0) : aBin P .shr t (.int k x) (.int k' y) = some (.int k (x.fdiv (2 ^ min y.toNat k.bits))) := by
  have : aBin P .shr t (.int k x) (.int k' y) = stillF P (Op.shift .shr k x k' y) := by cases k <;> cases k' <;> rfl
  rw [this]
  unfold Op.shift
  rw [if_neg h]
  rfl
@[simp] theorem un_not (b : Bool) : aUn P .not (.bool b) = some (.bool !b) := rfl
@[simp] theorem un_neg (k : IntKind) (x : Int) : aUn P .neg (.int k x) = some (.int k (k.wrap (0 - x))) := by cases k <;> rfl
@[simp] theorem pick_true (a b : Value) : aPick (.bool true) a b = some a := rfl
@[simp] theorem pick_false (a b : Value) : aPick (.bool false) a b = some b := rfl

/-! Strings and their like -/
@[simp] theorem bin_str_eql (t : TypeId) (x y : ByteArray) : aBin P .eql t (.string x) (.string y) = some (.bool (decide (x = y))) := by
  have h : aBin P .eql t (.string x) (.string y) = some (.bool (x.toList == y.toList)) := rfl
  rw [h]
  congr 2
  rw [Bool.eq_iff_iff, beq_iff_eq, decide_eq_true_iff, ByteArray.toList_eq, ByteArray.toList_eq]
  exact ⟨fun e => ByteArray.ext (Array.toList_inj.1 e), fun e => by rw [e]⟩
@[simp] theorem bin_str_neq (t : TypeId) (x y : ByteArray) : aBin P .neq t (.string x) (.string y) = some (.bool (!decide (x = y))) := by
  have h : aBin P .neq t (.string x) (.string y) = some (.bool (!(x.toList == y.toList))) := rfl
  rw [h]
  congr 3
  rw [Bool.eq_iff_iff, beq_iff_eq, decide_eq_true_iff, ByteArray.toList_eq, ByteArray.toList_eq]
  exact ⟨fun e => ByteArray.ext (Array.toList_inj.1 e), fun e => by rw [e]⟩

theorem eqIn_bool {t : TypeId} (hu : P.underlying t = some .bool) (n : Nat) (a b : Bool) : still P (Op.equalIn (n + 1) t (.bool a) (.bool b)) = some (a == b) := by
  simp only [Op.equalIn]
  rw [still_bind, still_und, hu, Option.bind_some]
  rfl
theorem eqIn_ptr {t e : TypeId} (hu : P.underlying t = some (.pointer e)) (n : Nat) (a : Option Addr) : still P (Op.equalIn (n + 1) t (.pointer a) (.pointer none)) = some a.isNone := by
  simp only [Op.equalIn]
  rw [still_bind, still_und, hu, Option.bind_some]
  cases a <;> rfl
theorem eqIn_sl {t e : TypeId} (hu : P.underlying t = some (.slice e)) (n : Nat) (a : Option Addr) (l c l' c' : Nat) : still P (Op.equalIn (n + 1) t (.slice a l c) (.slice none l' c')) = some a.isNone := by
  simp only [Op.equalIn]
  rw [still_bind, still_und, hu, Option.bind_some]
  cases a <;> rfl
theorem bin_bool_eql {t : TypeId} (hu : P.underlying t = some .bool) (a b : Bool) : aBin P .eql t (.bool a) (.bool b) = some (.bool (a == b)) := by
  have h : aBin P .eql t (.bool a) (.bool b) = stillF P (do pure (.bool (← Op.equal t (.bool a) (.bool b)))) := rfl
  rw [h]
  unfold stillF
  rw [still_bind, show Op.equal t (.bool a) (.bool b) = Op.equalIn (9999 + 1) t (.bool a) (.bool b) from rfl, eqIn_bool hu]
  rfl
theorem bin_bool_neq {t : TypeId} (hu : P.underlying t = some .bool) (a b : Bool) : aBin P .neq t (.bool a) (.bool b) = some (.bool (a != b)) := by
  have h : aBin P .neq t (.bool a) (.bool b) = stillF P (do pure (.bool (!(← Op.equal t (.bool a) (.bool b))))) := rfl
  rw [h]
  unfold stillF
  rw [still_bind, show Op.equal t (.bool a) (.bool b) = Op.equalIn (9999 + 1) t (.bool a) (.bool b) from rfl, eqIn_bool hu]
  rfl
theorem bin_ptr_eql {t e : TypeId} (hu : P.underlying t = some (.pointer e)) (a : Option Addr) : aBin P .eql t (.pointer a) (.pointer none) = some (.bool a.isNone) := by
  have h : aBin P .eql t (.pointer a) (.pointer none) = stillF P (do pure (.bool (← Op.equal t (.pointer a) (.pointer none)))) := by cases a <;> rfl
  rw [h]
  unfold stillF
  rw [still_bind, show Op.equal t (.pointer a) (.pointer none) = Op.equalIn (9999 + 1) t (.pointer a) (.pointer none) from rfl, eqIn_ptr hu]
  cases a <;> rfl
theorem bin_ptr_neq {t e : TypeId} (hu : P.underlying t = some (.pointer e)) (a : Option Addr) : aBin P .neq t (.pointer a) (.pointer none) = some (.bool (!a.isNone)) := by
  have h : aBin P .neq t (.pointer a) (.pointer none) = stillF P (do pure (.bool (!(← Op.equal t (.pointer a) (.pointer none))))) := by cases a <;> rfl
  rw [h]
  unfold stillF
  rw [still_bind, show Op.equal t (.pointer a) (.pointer none) = Op.equalIn (9999 + 1) t (.pointer a) (.pointer none) from rfl, eqIn_ptr hu]
  cases a <;> rfl

theorem bin_sl_eql {t e : TypeId} (hu : P.underlying t = some (.slice e)) (a : Option Addr) (l c l' c' : Nat) : aBin P .eql t (.slice a l c) (.slice none l' c') = some (.bool a.isNone) := by
  have h : aBin P .eql t (.slice a l c) (.slice none l' c') = stillF P (do pure (.bool (← Op.equal t (.slice a l c) (.slice none l' c')))) := by cases a <;> rfl
  rw [h]
  unfold stillF
  rw [still_bind, show Op.equal t (.slice a l c) (.slice none l' c') = Op.equalIn (9999 + 1) t (.slice a l c) (.slice none l' c') from rfl, eqIn_sl hu]
  cases a <;> rfl

/-! Parts, conversions, lengths -/
@[simp] theorem ex_tuple (vs : Array Value) (i : Nat) : still P (Instr.extract (.tuple vs) i) = vs[i]? := by
  unfold Instr.extract
  dsimp only
  cases vs[i]? <;> rfl
@[simp] theorem nil_ptr (a : Addr) : aNil (.pointer (some a)) = some (.pointer (some a)) := rfl
@[simp] theorem nil_func (f : FuncId) (u v : Array Value) : aNil (.func (.func f) u v) = some (.func (.func f) u v) := rfl
@[simp] theorem add_mk (b o n : Nat) : (⟨b, o, none⟩ : Addr).add n = ⟨b, o + n, none⟩ := by
  unfold Addr.add
  split
  · rename_i h; subst h; rfl
  · rfl
theorem conv_int {src dst : TypeId} {d : TypeDesc} {k : IntKind} (h1 : P.underlying src = some d) (h2 : P.underlying dst = some (.int k)) (S : St) (k' : IntKind) (x : Int) : aConv P W S src dst (.int k' x) = some (.int k (k.wrap x), S) := by
  have h : aConv P W S src dst (.int k' x) = (match stillF P (convert src dst (.int k' x)) with | some v => some (v, S) | none => none) := rfl
  rw [h]
  have hc : still P (convert src dst (.int k' x)) = some (.int k (k.wrap x)) := by
    unfold convert
    rw [still_bind, still_und, h1, Option.bind_some, still_bind, still_und, h2, Option.bind_some]
    cases d <;> rfl
  unfold stillF
  rw [hc]
  rfl
theorem conv_str {src dst e : TypeId} (h1 : P.underlying dst = some (.slice e)) (h2 : P.underlying e = some (.int .u8)) (S : St) (s : ByteArray) (hs : s.size ≤ 2 ^ 62) :
    aConv P W S src dst (.string s) = some (.slice (some ⟨S.c, 0, none⟩) s.size s.size, S.new (.row (s.data.toList.map fun b => .int .u8 b.toNat) 1)) := by
  simp only [aConv, h1, h2, if_pos hs]
theorem bytesOfCells_map (ns : List Int) : bytesOfCells (ns.map (Value.int .u8)) = some (ns.map fun n => UInt8.ofNat n.toNat) := by
  induction ns with
  | nil => rfl
  | cons n ns ih => simp only [List.map_cons, bytesOfCells, ih]
theorem conv_bytes {src dst e : TypeId} (h1 : P.underlying src = some (.slice e)) (h2 : P.underlying dst = some .string) (h3 : P.underlying e = some (.int .u8)) (S : St) (a : Addr) (n c : Nat) (ns : List Int) (hc : S.cells W a n = some (ns.map (Value.int .u8))) :
    aConv P W S src dst (.slice (some a) n c) = some (.string ⟨(ns.map fun n => UInt8.ofNat n.toNat).toArray⟩, S) := by
  simp only [aConv, h1, h2, h3, hc, bytesOfCells_map]
theorem conv_nil {src dst e : TypeId} (h1 : P.underlying src = some (.slice e)) (h2 : P.underlying dst = some .string) (h3 : P.underlying e = some (.int .u8)) (S : St) (n c : Nat) :
    aConv P W S src dst (.slice none n c) = some (.string .empty, S) := by
  have h : aConv P W S src dst (.slice none n c) = (match stillF P (convert src dst (.slice none n c)) with | some v => some (v, S) | none => none) := rfl
  rw [h]
  have hc : still P (convert src dst (.slice none n c)) = some (.string .empty) := by
    unfold convert
    rw [still_bind, still_und, h1, Option.bind_some, still_bind, still_und, h2, Option.bind_some]
    dsimp only
    rw [still_bind, still_und, h3, Option.bind_some]
    rfl
  unfold stillF
  rw [hc]
  rfl
theorem len_slice {t e : TypeId} (h : P.underlying t = some (.slice e)) (S : St) (a : Option Addr) (n c : Nat) : aLen P W S #[t] #[.slice a n c] = some (.int .i64 n) := by
  have h0 : aLen P W S #[t] #[.slice a n c] = stillF P (Builtin.len_ #[t] 0 #[.slice a n c]) := rfl
  rw [h0]
  have : still P (Builtin.len_ #[t] 0 #[.slice a n c]) = some (.int .i64 n) := by
    show still P (do match ← underlying t, (.slice a n c : Value) with
      | .string, .string s => pure (goInt s.size)
      | .array n _, _ => pure (goInt n)
      | .pointer arr, _ => do
        let .array n _ ← underlying arr | stuck "len: pointer to array expected"
        pure (goInt n)
      | .slice _, .slice _ n _ => pure (goInt n)
      | .map _ _, .map none | .chan _ _, .chan none => pure (goInt 0)
      | .map _ _, .map (some r) => do
        let .map entries _ ← getObj r | stuck "len: map expected"
        pure (goInt entries.size)
      | .chan _ _, .chan (some r) => do
        let .chan _ buf _ _ _ timer ← getObj r | stuck "len: channel expected"
        pure (goInt (if timer then 0 else buf.size))
      | _, _ => stuck "len: string, array, pointer to array, slice, map or channel expected") = _
    rw [still_bind, still_und, h, Option.bind_some]
    rfl
  unfold stillF
  rw [this]
  rfl
end
end Go.Proofs.YtnnajiaaakkjfaaDoor.E
