/- Closed facts about types and functions, laid out by a program for this claim. -/
import Derived.Test.YtnnajiaaakkjfaaDoorE29
import Derived.Test.YtnnajiaaakkjfaaDoorL0
namespace Go.Proofs.YtnnajiaaakkjfaaDoor.F
open Go Go.Proofs.YtnnajiaaakkjfaaDoor.E
set_option linter.unusedVariables false
@[simp] theorem call_8 (W : World) (S : St) (args : Array Value) : aCall p (cw W) S (.func (.func 8) #[] #[]) args = cw W 8 args S := call_fn (by kernel_rfl) S args
@[simp] theorem call_9 (W : World) (S : St) (args : Array Value) : aCall p (cw W) S (.func (.func 9) #[] #[]) args = cw W 9 args S := call_fn (by kernel_rfl) S args
@[simp] theorem call_10 (W : World) (S : St) (args : Array Value) : aCall p (cw W) S (.func (.func 10) #[] #[]) args = cw W 10 args S := call_fn (by kernel_rfl) S args
@[simp] theorem call_11 (W : World) (S : St) (args : Array Value) : aCall p (cw W) S (.func (.func 11) #[] #[]) args = cw W 11 args S := call_fn (by kernel_rfl) S args
@[simp] theorem call_12 (W : World) (S : St) (args : Array Value) : aCall p (cw W) S (.func (.func 12) #[] #[]) args = cw W 12 args S := call_fn (by kernel_rfl) S args
@[simp] theorem call_13 (W : World) (S : St) (args : Array Value) : aCall p (cw W) S (.func (.func 13) #[] #[]) args = cw W 13 args S := call_fn (by kernel_rfl) S args
@[simp] theorem call_14 (W : World) (S : St) (args : Array Value) : aCall p (cw W) S (.func (.func 14) #[] #[]) args = cw W 14 args S := call_fn (by kernel_rfl) S args
@[simp] theorem call_15 (W : World) (S : St) (args : Array Value) : aCall p (cw W) S (.func (.func 15) #[] #[]) args = cw W 15 args S := call_fn (by kernel_rfl) S args
@[simp] theorem call_16 (W : World) (S : St) (args : Array Value) : aCall p (cw W) S (.func (.func 16) #[] #[]) args = cw W 16 args S := call_fn (by kernel_rfl) S args
@[simp] theorem call_17 (W : World) (S : St) (args : Array Value) : aCall p (cw W) S (.func (.func 17) #[] #[]) args = cw W 17 args S := call_fn (by kernel_rfl) S args
@[simp] theorem call_18 (W : World) (S : St) (args : Array Value) : aCall p (cw W) S (.func (.func 18) #[] #[]) args = cw W 18 args S := call_fn (by kernel_rfl) S args
@[simp] theorem call_19 (W : World) (S : St) (args : Array Value) : aCall p (cw W) S (.func (.func 19) #[] #[]) args = cw W 19 args S := call_fn (by kernel_rfl) S args
@[simp] theorem call_20 (W : World) (S : St) (args : Array Value) : aCall p (cw W) S (.func (.func 20) #[] #[]) args = cw W 20 args S := call_fn (by kernel_rfl) S args
@[simp] theorem call_21 (W : World) (S : St) (args : Array Value) : aCall p (cw W) S (.func (.func 21) #[] #[]) args = cw W 21 args S := call_fn (by kernel_rfl) S args
@[simp] theorem call_22 (W : World) (S : St) (args : Array Value) : aCall p (cw W) S (.func (.func 22) #[] #[]) args = cw W 22 args S := call_fn (by kernel_rfl) S args
@[simp] theorem call_23 (W : World) (S : St) (args : Array Value) : aCall p (cw W) S (.func (.func 23) #[] #[]) args = cw W 23 args S := call_fn (by kernel_rfl) S args
@[simp] theorem call_24 (W : World) (S : St) (args : Array Value) : aCall p (cw W) S (.func (.func 24) #[] #[]) args = cw W 24 args S := call_fn (by kernel_rfl) S args
@[simp] theorem call_25 (W : World) (S : St) (args : Array Value) : aCall p (cw W) S (.func (.func 25) #[] #[]) args = cw W 25 args S := call_fn (by kernel_rfl) S args
@[simp] theorem call_26 (W : World) (S : St) (args : Array Value) : aCall p (cw W) S (.func (.func 26) #[] #[]) args = cw W 26 args S := call_fn (by kernel_rfl) S args
@[simp] theorem call_27 (W : World) (S : St) (args : Array Value) : aCall p (cw W) S (.func (.func 27) #[] #[]) args = cw W 27 args S := call_fn (by kernel_rfl) S args
@[simp] theorem call_28 (W : World) (S : St) (args : Array Value) : aCall p (cw W) S (.func (.func 28) #[] #[]) args = cw W 28 args S := call_fn (by kernel_rfl) S args
theorem sz_3 : szOf p 3 = some 1 := by kernel_rfl
@[simp] theorem ld_3 (W : World) (S : St) (a : Addr) : aLoad p W S 3 (.pointer (some a)) = S.cell W a := by kernel_rfl
@[simp] theorem st_3 (S : St) (a : Addr) (k : IntKind) (i : Int) : aStore p S 3 (.pointer (some a)) (.int k i) = S.put a [.int k i] := store_mk (by exact sz_3) rfl
theorem sz_4 : szOf p 4 = some 1 := by kernel_rfl
@[simp] theorem ld_4 (W : World) (S : St) (a : Addr) : aLoad p W S 4 (.pointer (some a)) = S.cell W a := by kernel_rfl
@[simp] theorem st_4 (S : St) (a : Addr) (i : Bool) : aStore p S 4 (.pointer (some a)) (.bool i) = S.put a [.bool i] := store_mk (by exact sz_4) rfl
@[simp] theorem beql_4 (a b : Bool) : aBin p .eql 4 (.bool a) (.bool b) = some (.bool (a == b)) := bin_bool_eql Tryd.underlying4 a b
@[simp] theorem bneq_4 (a b : Bool) : aBin p .neq 4 (.bool a) (.bool b) = some (.bool (a != b)) := bin_bool_neq Tryd.underlying4 a b
theorem sz_5 : szOf p 5 = some 1 := by kernel_rfl
@[simp] theorem ld_5 (W : World) (S : St) (a : Addr) : aLoad p W S 5 (.pointer (some a)) = S.cell W a := by kernel_rfl
@[simp] theorem st_5 (S : St) (a : Addr) (k : IntKind) (i : Int) : aStore p S 5 (.pointer (some a)) (.int k i) = S.put a [.int k i] := store_mk (by exact sz_5) rfl
theorem sz_9 : szOf p 9 = some 1 := by kernel_rfl
@[simp] theorem ld_9 (W : World) (S : St) (a : Addr) : aLoad p W S 9 (.pointer (some a)) = S.cell W a := by kernel_rfl
@[simp] theorem st_9 (S : St) (a : Addr) (i : ByteArray) : aStore p S 9 (.pointer (some a)) (.string i) = S.put a [.string i] := store_mk (by exact sz_9) rfl
@[simp] theorem len_9 (W : World) (S : St) (s : ByteArray) : aLen p W S #[9] #[.string s] = some (.int .i64 s.size) := len_str Tryd.underlying9 S s
theorem sz_22 : szOf p 22 = some 1 := by kernel_rfl
@[simp] theorem ld_22 (W : World) (S : St) (a : Addr) : aLoad p W S 22 (.pointer (some a)) = S.cell W a := by kernel_rfl
@[simp] theorem st_22 (S : St) (a : Addr) (x : Option Addr) (n c : Nat) : aStore p S 22 (.pointer (some a)) (.slice x n c) = S.put a [.slice x n c] := store_mk (by exact sz_22) rfl
@[simp] theorem len_22 (W : World) (S : St) (a : Option Addr) (n c : Nat) : aLen p W S #[22] #[.slice a n c] = some (.int .i64 n) := len_slice Tryd.underlying22 S a n c
@[simp] theorem ix_22 (b o n c : Nat) (k : IntKind) (i : Int) (h0 : 0 ≤ i) (h1 : i < n) : aIndexAddr p 22 (.slice (some ⟨b, o, none⟩) n c) (.int k i) = some (.pointer (some ⟨b, o + i.toNat * 2, none⟩)) := (index_mk Tryd.underlying22 (by kernel_rfl) h0 h1).trans (by rw [add_mk])
@[simp] theorem bsl_22 (a : Option Addr) (l c l2 c2 : Nat) : aBin p .eql 22 (.slice a l c) (.slice none l2 c2) = some (.bool a.isNone) := bin_sl_eql Tryd.underlying22 a l c l2 c2
theorem sz_24 : szOf p 24 = some 1 := by kernel_rfl
@[simp] theorem ld_24 (W : World) (S : St) (a : Addr) : aLoad p W S 24 (.pointer (some a)) = S.cell W a := by kernel_rfl
@[simp] theorem st_24 (S : St) (a : Addr) (x : Option Addr) (n c : Nat) : aStore p S 24 (.pointer (some a)) (.slice x n c) = S.put a [.slice x n c] := store_mk (by exact sz_24) rfl
@[simp] theorem len_24 (W : World) (S : St) (a : Option Addr) (n c : Nat) : aLen p W S #[24] #[.slice a n c] = some (.int .i64 n) := len_slice Tryd.underlying24 S a n c
@[simp] theorem ix_24 (b o n c : Nat) (k : IntKind) (i : Int) (h0 : 0 ≤ i) (h1 : i < n) : aIndexAddr p 24 (.slice (some ⟨b, o, none⟩) n c) (.int k i) = some (.pointer (some ⟨b, o + i.toNat * 4, none⟩)) := (index_mk Tryd.underlying24 (by kernel_rfl) h0 h1).trans (by rw [add_mk])
@[simp] theorem bsl_24 (a : Option Addr) (l c l2 c2 : Nat) : aBin p .eql 24 (.slice a l c) (.slice none l2 c2) = some (.bool a.isNone) := bin_sl_eql Tryd.underlying24 a l c l2 c2
theorem sz_25 : szOf p 25 = some 1 := by kernel_rfl
@[simp] theorem ld_25 (W : World) (S : St) (a : Addr) : aLoad p W S 25 (.pointer (some a)) = S.cell W a := by kernel_rfl
@[simp] theorem st_25 (S : St) (a : Addr) (x : Option Addr) (n c : Nat) : aStore p S 25 (.pointer (some a)) (.slice x n c) = S.put a [.slice x n c] := store_mk (by exact sz_25) rfl
@[simp] theorem len_25 (W : World) (S : St) (a : Option Addr) (n c : Nat) : aLen p W S #[25] #[.slice a n c] = some (.int .i64 n) := len_slice Tryd.underlying25 S a n c
@[simp] theorem ix_25 (b o n c : Nat) (k : IntKind) (i : Int) (h0 : 0 ≤ i) (h1 : i < n) : aIndexAddr p 25 (.slice (some ⟨b, o, none⟩) n c) (.int k i) = some (.pointer (some ⟨b, o + i.toNat * 1, none⟩)) := (index_mk Tryd.underlying25 (by kernel_rfl) h0 h1).trans (by rw [add_mk])
@[simp] theorem bsl_25 (a : Option Addr) (l c l2 c2 : Nat) : aBin p .eql 25 (.slice a l c) (.slice none l2 c2) = some (.bool a.isNone) := bin_sl_eql Tryd.underlying25 a l c l2 c2
theorem sz_28 : szOf p 28 = some 1 := by kernel_rfl
@[simp] theorem ld_28 (W : World) (S : St) (a : Addr) : aLoad p W S 28 (.pointer (some a)) = S.cell W a := by kernel_rfl
@[simp] theorem st_28 (S : St) (a : Addr) (k : IntKind) (i : Int) : aStore p S 28 (.pointer (some a)) (.int k i) = S.put a [.int k i] := store_mk (by exact sz_28) rfl
theorem sz_30 : szOf p 30 = some 4 := by kernel_rfl
@[simp] theorem fa_30_0 (b o : Nat) : aFieldAddr p 30 (.pointer (some ⟨b, o, none⟩)) 0 = some (.pointer (some ⟨b, o, none⟩)) := by kernel_rfl
@[simp] theorem fa_30_1 (b o : Nat) : aFieldAddr p 30 (.pointer (some ⟨b, o, none⟩)) 1 = some (.pointer (some ⟨b, o + 1, none⟩)) := by kernel_rfl
@[simp] theorem fa_30_2 (b o : Nat) : aFieldAddr p 30 (.pointer (some ⟨b, o, none⟩)) 2 = some (.pointer (some ⟨b, o + 2, none⟩)) := by kernel_rfl
@[simp] theorem fa_30_3 (b o : Nat) : aFieldAddr p 30 (.pointer (some ⟨b, o, none⟩)) 3 = some (.pointer (some ⟨b, o + 3, none⟩)) := by kernel_rfl
@[simp] theorem ld_30 (W : World) (S : St) (a : Addr) : aLoad p W S 30 (.pointer (some a)) = aggOf (S.cells W a 4) := by kernel_rfl
@[simp] theorem st_30 (S : St) (a : Addr) (x0 x1 x2 x3 : Value) : aStore p S 30 (.pointer (some a)) (.agg #[x0, x1, x2, x3]) = S.put a [x0, x1, x2, x3] := store_mk (by exact sz_30) rfl
theorem eqs_30 (a0 b0 : Int) (a1 b1 : Int) (a2 b2 : Int) (a3 b3 : Int) : still p (Op.equalIn 10000 30 (.agg #[.int .i64 a0, .int .u32 a1, .int .i64 a2, .int .i64 a3]) (.agg #[.int .i64 b0, .int .u32 b1, .int .i64 b2, .int .i64 b3])) = some (decide (a0 = b0 ∧ a1 = b1 ∧ a2 = b2 ∧ a3 = b3)) := (eq_struct Tryd.underlying30 (by kernel_rfl) 9999 _ _).trans ((by kernel_rfl : _ = andF (some (a0 == b0)) (andF (some (a1 == b1)) (andF (some (a2 == b2)) (andF (some (a3 == b3)) (some true))))).trans (by simp only [beq_int, beq_bl, beq_ba, andF_end, andF_dec]))
@[simp] theorem bseql_30 (a0 b0 : Int) (a1 b1 : Int) (a2 b2 : Int) (a3 b3 : Int) : aBin p .eql 30 (.agg #[.int .i64 a0, .int .u32 a1, .int .i64 a2, .int .i64 a3]) (.agg #[.int .i64 b0, .int .u32 b1, .int .i64 b2, .int .i64 b3]) = some (.bool (decide (a0 = b0 ∧ a1 = b1 ∧ a2 = b2 ∧ a3 = b3))) := bin_agg_eql (by kernel_rfl) (by kernel_rfl) (by kernel_rfl) (eqs_30 a0 b0 a1 b1 a2 b2 a3 b3)
@[simp] theorem bsneq_30 (a0 b0 : Int) (a1 b1 : Int) (a2 b2 : Int) (a3 b3 : Int) : aBin p .neq 30 (.agg #[.int .i64 a0, .int .u32 a1, .int .i64 a2, .int .i64 a3]) (.agg #[.int .i64 b0, .int .u32 b1, .int .i64 b2, .int .i64 b3]) = some (.bool (!decide (a0 = b0 ∧ a1 = b1 ∧ a2 = b2 ∧ a3 = b3))) := bin_agg_neq (by kernel_rfl) (by kernel_rfl) (by kernel_rfl) (eqs_30 a0 b0 a1 b1 a2 b2 a3 b3)
theorem sz_32 : szOf p 32 = some 2 := by kernel_rfl
@[simp] theorem fa_32_0 (b o : Nat) : aFieldAddr p 32 (.pointer (some ⟨b, o, none⟩)) 0 = some (.pointer (some ⟨b, o, none⟩)) := by kernel_rfl
@[simp] theorem fa_32_1 (b o : Nat) : aFieldAddr p 32 (.pointer (some ⟨b, o, none⟩)) 1 = some (.pointer (some ⟨b, o + 1, none⟩)) := by kernel_rfl
@[simp] theorem ld_32 (W : World) (S : St) (a : Addr) : aLoad p W S 32 (.pointer (some a)) = aggOf (S.cells W a 2) := by kernel_rfl
@[simp] theorem st_32 (S : St) (a : Addr) (x0 x1 : Value) : aStore p S 32 (.pointer (some a)) (.agg #[x0, x1]) = S.put a [x0, x1] := store_mk (by exact sz_32) rfl
theorem sz_36 : szOf p 36 = some 4 := by kernel_rfl
@[simp] theorem fa_36_0 (b o : Nat) : aFieldAddr p 36 (.pointer (some ⟨b, o, none⟩)) 0 = some (.pointer (some ⟨b, o, none⟩)) := by kernel_rfl
@[simp] theorem fa_36_1 (b o : Nat) : aFieldAddr p 36 (.pointer (some ⟨b, o, none⟩)) 1 = some (.pointer (some ⟨b, o + 1, none⟩)) := by kernel_rfl
@[simp] theorem fa_36_2 (b o : Nat) : aFieldAddr p 36 (.pointer (some ⟨b, o, none⟩)) 2 = some (.pointer (some ⟨b, o + 2, none⟩)) := by kernel_rfl
@[simp] theorem fa_36_3 (b o : Nat) : aFieldAddr p 36 (.pointer (some ⟨b, o, none⟩)) 3 = some (.pointer (some ⟨b, o + 3, none⟩)) := by kernel_rfl
@[simp] theorem ld_36 (W : World) (S : St) (a : Addr) : aLoad p W S 36 (.pointer (some a)) = aggOf (S.cells W a 4) := by kernel_rfl
@[simp] theorem st_36 (S : St) (a : Addr) (x0 x1 x2 x3 : Value) : aStore p S 36 (.pointer (some a)) (.agg #[x0, x1, x2, x3]) = S.put a [x0, x1, x2, x3] := store_mk (by exact sz_36) rfl
theorem eqs_36 (a0 b0 : Int) (a1 b1 : Int) (a2 b2 : Int) (a3 b3 : Int) : still p (Op.equalIn 10000 36 (.agg #[.int .i64 a0, .int .u32 a1, .int .i64 a2, .int .i64 a3]) (.agg #[.int .i64 b0, .int .u32 b1, .int .i64 b2, .int .i64 b3])) = some (decide (a0 = b0 ∧ a1 = b1 ∧ a2 = b2 ∧ a3 = b3)) := (eq_struct Tryd.underlying36 (by kernel_rfl) 9999 _ _).trans ((by kernel_rfl : _ = andF (some (a0 == b0)) (andF (some (a1 == b1)) (andF (some (a2 == b2)) (andF (some (a3 == b3)) (some true))))).trans (by simp only [beq_int, beq_bl, beq_ba, andF_end, andF_dec]))
@[simp] theorem bseql_36 (a0 b0 : Int) (a1 b1 : Int) (a2 b2 : Int) (a3 b3 : Int) : aBin p .eql 36 (.agg #[.int .i64 a0, .int .u32 a1, .int .i64 a2, .int .i64 a3]) (.agg #[.int .i64 b0, .int .u32 b1, .int .i64 b2, .int .i64 b3]) = some (.bool (decide (a0 = b0 ∧ a1 = b1 ∧ a2 = b2 ∧ a3 = b3))) := bin_agg_eql (by kernel_rfl) (by kernel_rfl) (by kernel_rfl) (eqs_36 a0 b0 a1 b1 a2 b2 a3 b3)
@[simp] theorem bsneq_36 (a0 b0 : Int) (a1 b1 : Int) (a2 b2 : Int) (a3 b3 : Int) : aBin p .neq 36 (.agg #[.int .i64 a0, .int .u32 a1, .int .i64 a2, .int .i64 a3]) (.agg #[.int .i64 b0, .int .u32 b1, .int .i64 b2, .int .i64 b3]) = some (.bool (!decide (a0 = b0 ∧ a1 = b1 ∧ a2 = b2 ∧ a3 = b3))) := bin_agg_neq (by kernel_rfl) (by kernel_rfl) (by kernel_rfl) (eqs_36 a0 b0 a1 b1 a2 b2 a3 b3)
theorem sz_39 : szOf p 39 = some 1 := by kernel_rfl
@[simp] theorem ld_39 (W : World) (S : St) (a : Addr) : aLoad p W S 39 (.pointer (some a)) = S.cell W a := by kernel_rfl
@[simp] theorem st_39 (S : St) (a : Addr) (x : Option Addr) (n c : Nat) : aStore p S 39 (.pointer (some a)) (.slice x n c) = S.put a [.slice x n c] := store_mk (by exact sz_39) rfl
@[simp] theorem len_39 (W : World) (S : St) (a : Option Addr) (n c : Nat) : aLen p W S #[39] #[.slice a n c] = some (.int .i64 n) := len_slice Tryd.underlying39 S a n c
@[simp] theorem ix_39 (b o n c : Nat) (k : IntKind) (i : Int) (h0 : 0 ≤ i) (h1 : i < n) : aIndexAddr p 39 (.slice (some ⟨b, o, none⟩) n c) (.int k i) = some (.pointer (some ⟨b, o + i.toNat * 1, none⟩)) := (index_mk Tryd.underlying39 (by kernel_rfl) h0 h1).trans (by rw [add_mk])
@[simp] theorem bsl_39 (a : Option Addr) (l c l2 c2 : Nat) : aBin p .eql 39 (.slice a l c) (.slice none l2 c2) = some (.bool a.isNone) := bin_sl_eql Tryd.underlying39 a l c l2 c2
theorem sz_51 : szOf p 51 = some 3 := by kernel_rfl
@[simp] theorem ld_51 (W : World) (S : St) (a : Addr) : aLoad p W S 51 (.pointer (some a)) = aggOf (S.cells W a 3) := by kernel_rfl
@[simp] theorem st_51 (S : St) (a : Addr) (x0 x1 x2 : Value) : aStore p S 51 (.pointer (some a)) (.agg #[x0, x1, x2]) = S.put a [x0, x1, x2] := store_mk (by exact sz_51) rfl
@[simp] theorem ixa_51 (b o : Nat) (k : IntKind) (i : Int) (h0 : 0 ≤ i) (h1 : i < 3) : aIndexAddr p 51 (.pointer (some ⟨b, o, none⟩)) (.int k i) = some (.pointer (some ⟨b, o + i.toNat * 1, none⟩)) := (index_arr Tryd.underlying51 (by kernel_rfl) h0 h1).trans (by rw [add_mk])
theorem sz_56 : szOf p 56 = some 1 := by kernel_rfl
@[simp] theorem ld_56 (W : World) (S : St) (a : Addr) : aLoad p W S 56 (.pointer (some a)) = S.cell W a := by kernel_rfl
@[simp] theorem st_56 (S : St) (a : Addr) (k : IntKind) (i : Int) : aStore p S 56 (.pointer (some a)) (.int k i) = S.put a [.int k i] := store_mk (by exact sz_56) rfl
theorem sz_57 : szOf p 57 = some 32 := by kernel_rfl
@[simp] theorem ld_57 (W : World) (S : St) (a : Addr) : aLoad p W S 57 (.pointer (some a)) = aggOf (S.cells W a 32) := by kernel_rfl
@[simp] theorem st_57 (S : St) (a : Addr) (x0 x1 x2 x3 x4 x5 x6 x7 x8 x9 x10 x11 x12 x13 x14 x15 x16 x17 x18 x19 x20 x21 x22 x23 x24 x25 x26 x27 x28 x29 x30 x31 : Value) : aStore p S 57 (.pointer (some a)) (.agg #[x0, x1, x2, x3, x4, x5, x6, x7, x8, x9, x10, x11, x12, x13, x14, x15, x16, x17, x18, x19, x20, x21, x22, x23, x24, x25, x26, x27, x28, x29, x30, x31]) = S.put a [x0, x1, x2, x3, x4, x5, x6, x7, x8, x9, x10, x11, x12, x13, x14, x15, x16, x17, x18, x19, x20, x21, x22, x23, x24, x25, x26, x27, x28, x29, x30, x31] := store_mk (by exact sz_57) rfl
@[simp] theorem ixa_57 (b o : Nat) (k : IntKind) (i : Int) (h0 : 0 ≤ i) (h1 : i < 32) : aIndexAddr p 57 (.pointer (some ⟨b, o, none⟩)) (.int k i) = some (.pointer (some ⟨b, o + i.toNat * 1, none⟩)) := (index_arr Tryd.underlying57 (by kernel_rfl) h0 h1).trans (by rw [add_mk])
@[simp] theorem al_30 (S : St) : aAlloc p S 30 = some (.pointer (some ⟨S.c, 0, none⟩), S.new (.row [.int .i64 0, .int .u32 0, .int .i64 0, .int .i64 0] 0)) := by kernel_rfl
@[simp] theorem al_32 (S : St) : aAlloc p S 32 = some (.pointer (some ⟨S.c, 0, none⟩), S.new (.row [.int .i64 0, .int .u32 0] 0)) := by kernel_rfl
@[simp] theorem al_36 (S : St) : aAlloc p S 36 = some (.pointer (some ⟨S.c, 0, none⟩), S.new (.row [.int .i64 0, .int .u32 0, .int .i64 0, .int .i64 0] 0)) := by kernel_rfl
@[simp] theorem bu_30_0 (i0 : Int) : aBuild p 30 #[(0, .int .i64 i0)] = some (.agg #[.int .i64 i0, .int .u32 0, .int .i64 0, .int .i64 0]) := by kernel_rfl
@[simp] theorem bu_30_0_3 (i0 : Int) (i3 : Int) : aBuild p 30 #[(0, .int .i64 i0), (3, .int .i64 i3)] = some (.agg #[.int .i64 i0, .int .u32 0, .int .i64 0, .int .i64 i3]) := by kernel_rfl
@[simp] theorem bu_30_0_1_2 (i0 : Int) (i1 : Int) (i2 : Int) : aBuild p 30 #[(0, .int .i64 i0), (1, .int .u32 i1), (2, .int .i64 i2)] = some (.agg #[.int .i64 i0, .int .u32 i1, .int .i64 i2, .int .i64 0]) := by kernel_rfl
@[simp] theorem bu_30_0_1 (i0 : Int) (i1 : Int) : aBuild p 30 #[(0, .int .i64 i0), (1, .int .u32 i1)] = some (.agg #[.int .i64 i0, .int .u32 i1, .int .i64 0, .int .i64 0]) := by kernel_rfl
@[simp] theorem bu_30_0_1_2_3 (i0 : Int) (i1 : Int) (i2 : Int) (i3 : Int) : aBuild p 30 #[(0, .int .i64 i0), (1, .int .u32 i1), (2, .int .i64 i2), (3, .int .i64 i3)] = some (.agg #[.int .i64 i0, .int .u32 i1, .int .i64 i2, .int .i64 i3]) := by kernel_rfl
@[simp] theorem bu_32_0 (i0 : Int) : aBuild p 32 #[(0, .int .i64 i0)] = some (.agg #[.int .i64 i0, .int .u32 0]) := by kernel_rfl
@[simp] theorem bu_32_0_1 (i0 : Int) (i1 : Int) : aBuild p 32 #[(0, .int .i64 i0), (1, .int .u32 i1)] = some (.agg #[.int .i64 i0, .int .u32 i1]) := by kernel_rfl
@[simp] theorem bu_36_0 (i0 : Int) : aBuild p 36 #[(0, .int .i64 i0)] = some (.agg #[.int .i64 i0, .int .u32 0, .int .i64 0, .int .i64 0]) := by kernel_rfl
@[simp] theorem bu_36_0_3 (i0 : Int) (i3 : Int) : aBuild p 36 #[(0, .int .i64 i0), (3, .int .i64 i3)] = some (.agg #[.int .i64 i0, .int .u32 0, .int .i64 0, .int .i64 i3]) := by kernel_rfl
@[simp] theorem bu_36_0_1 (i0 : Int) (i1 : Int) : aBuild p 36 #[(0, .int .i64 i0), (1, .int .u32 i1)] = some (.agg #[.int .i64 i0, .int .u32 i1, .int .i64 0, .int .i64 0]) := by kernel_rfl
@[simp] theorem bs_22_1_0 (S : St) (x0_0 x0_1 : Value) : aBuildSlice p S 22 1 #[(0, .agg #[x0_0, x0_1])] = some (.slice (some ⟨S.c, 0, none⟩) 1 1, S.new (.row [x0_0, x0_1] 0)) := by kernel_rfl
@[simp] theorem bs_24_1_0 (S : St) (x0_0 x0_1 x0_2 x0_3 : Value) : aBuildSlice p S 24 1 #[(0, .agg #[x0_0, x0_1, x0_2, x0_3])] = some (.slice (some ⟨S.c, 0, none⟩) 1 1, S.new (.row [x0_0, x0_1, x0_2, x0_3] 0)) := by kernel_rfl
@[simp] theorem bs_25_1_0 (S : St) (i0 : Int) : aBuildSlice p S 25 1 #[(0, .int .i64 i0)] = some (.slice (some ⟨S.c, 0, none⟩) 1 1, S.new (.row [.int .i64 i0] 0)) := by kernel_rfl
@[simp] theorem cv_3_56 (W : World) (S : St) (k : IntKind) (x : Int) : aConv p W S 3 56 (.int k x) = some (.int .u64 (IntKind.u64.wrap x), S) := conv_int Tryd.underlying3 Tryd.underlying56 S k x
@[simp] theorem cv_5_3 (W : World) (S : St) (k : IntKind) (x : Int) : aConv p W S 5 3 (.int k x) = some (.int .i64 (IntKind.i64.wrap x), S) := conv_int Tryd.underlying5 Tryd.underlying3 S k x
end Go.Proofs.YtnnajiaaakkjfaaDoor.F
