/- Closed facts about types and functions, laid out by a program for this claim. -/
import Derived.Test.YtjfmapoangigoaaE27
import Derived.Test.YtjfmapoangigoaaL0
namespace Go.Proofs.Ytjfmapoangigoaa.F
open Go Go.Proofs.Ytjfmapoangigoaa.E
set_option linter.unusedVariables false
@[simp] theorem call_7 (W : World) (S : St) (args : Array Value) : aCall p (cw W) S (.func (.func 7) #[] #[]) args = cw W 7 args S := call_fn (by kernel_rfl) S args
@[simp] theorem call_8 (W : World) (S : St) (args : Array Value) : aCall p (cw W) S (.func (.func 8) #[] #[]) args = cw W 8 args S := call_fn (by kernel_rfl) S args
@[simp] theorem call_9 (W : World) (S : St) (args : Array Value) : aCall p (cw W) S (.func (.func 9) #[] #[]) args = cw W 9 args S := call_fn (by kernel_rfl) S args
@[simp] theorem call_10 (W : World) (S : St) (args : Array Value) : aCall p (cw W) S (.func (.func 10) #[] #[]) args = cw W 10 args S := call_fn (by kernel_rfl) S args
@[simp] theorem call_11 (W : World) (S : St) (args : Array Value) : aCall p (cw W) S (.func (.func 11) #[] #[]) args = cw W 11 args S := call_fn (by kernel_rfl) S args
@[simp] theorem call_12 (W : World) (S : St) (args : Array Value) : aCall p (cw W) S (.func (.func 12) #[] #[]) args = cw W 12 args S := call_fn (by kernel_rfl) S args
@[simp] theorem call_13 (W : World) (S : St) (args : Array Value) : aCall p (cw W) S (.func (.func 13) #[] #[]) args = cw W 13 args S := call_fn (by kernel_rfl) S args
@[simp] theorem call_14 (W : World) (S : St) (args : Array Value) : aCall p (cw W) S (.func (.func 14) #[] #[]) args = cw W 14 args S := call_fn (by kernel_rfl) S args
@[simp] theorem call_15 (W : World) (S : St) (args : Array Value) : aCall p (cw W) S (.func (.func 15) #[] #[]) args = cw W 15 args S := call_fn (by kernel_rfl) S args
@[simp] theorem call_16 (W : World) (S : St) (args : Array Value) : aCall p (cw W) S (.func (.func 16) #[] #[]) args = cw W 16 args S := call_fn (by kernel_rfl) S args
@[simp] theorem call_17 (W : World) (S : St) (args : Array Value) : aCall p (cw W) S (.func (.func 17) #[] #[]) args = cw W 17 args S := call_fn (by kernel_rfl) S args
@[simp] theorem call_18 (W : World) (S : St) (args : Array Value) : aCall p (cw W) S (.func (.func 18) #[] #[]) args = cw W 18 args S := call_fn (by kernel_rfl) S args
@[simp] theorem call_19 (W : World) (S : St) (args : Array Value) : aCall p (cw W) S (.func (.func 19) #[] #[]) args = cw W 19 args S := call_fn (by kernel_rfl) S args
@[simp] theorem call_20 (W : World) (S : St) (args : Array Value) : aCall p (cw W) S (.func (.func 20) #[] #[]) args = cw W 20 args S := call_fn (by kernel_rfl) S args
@[simp] theorem call_21 (W : World) (S : St) (args : Array Value) : aCall p (cw W) S (.func (.func 21) #[] #[]) args = cw W 21 args S := call_fn (by kernel_rfl) S args
@[simp] theorem call_22 (W : World) (S : St) (args : Array Value) : aCall p (cw W) S (.func (.func 22) #[] #[]) args = cw W 22 args S := call_fn (by kernel_rfl) S args
@[simp] theorem call_23 (W : World) (S : St) (args : Array Value) : aCall p (cw W) S (.func (.func 23) #[] #[]) args = cw W 23 args S := call_fn (by kernel_rfl) S args
@[simp] theorem call_24 (W : World) (S : St) (args : Array Value) : aCall p (cw W) S (.func (.func 24) #[] #[]) args = cw W 24 args S := call_fn (by kernel_rfl) S args
@[simp] theorem call_25 (W : World) (S : St) (args : Array Value) : aCall p (cw W) S (.func (.func 25) #[] #[]) args = cw W 25 args S := call_fn (by kernel_rfl) S args
@[simp] theorem call_26 (W : World) (S : St) (args : Array Value) : aCall p (cw W) S (.func (.func 26) #[] #[]) args = cw W 26 args S := call_fn (by kernel_rfl) S args
theorem sz_2 : szOf p 2 = some 1 := by kernel_rfl
@[simp] theorem ld_2 (W : World) (S : St) (a : Addr) : aLoad p W S 2 (.pointer (some a)) = S.cell W a := by kernel_rfl
@[simp] theorem st_2 (S : St) (a : Addr) (k : IntKind) (i : Int) : aStore p S 2 (.pointer (some a)) (.int k i) = S.put a [.int k i] := store_mk (by exact sz_2) rfl
theorem sz_3 : szOf p 3 = some 1 := by kernel_rfl
@[simp] theorem ld_3 (W : World) (S : St) (a : Addr) : aLoad p W S 3 (.pointer (some a)) = S.cell W a := by kernel_rfl
@[simp] theorem st_3 (S : St) (a : Addr) (k : IntKind) (i : Int) : aStore p S 3 (.pointer (some a)) (.int k i) = S.put a [.int k i] := store_mk (by exact sz_3) rfl
theorem sz_4 : szOf p 4 = some 1 := by kernel_rfl
@[simp] theorem ld_4 (W : World) (S : St) (a : Addr) : aLoad p W S 4 (.pointer (some a)) = S.cell W a := by kernel_rfl
@[simp] theorem st_4 (S : St) (a : Addr) (i : Bool) : aStore p S 4 (.pointer (some a)) (.bool i) = S.put a [.bool i] := store_mk (by exact sz_4) rfl
@[simp] theorem beql_4 (a b : Bool) : aBin p .eql 4 (.bool a) (.bool b) = some (.bool (a == b)) := bin_bool_eql Try.underlying4 a b
@[simp] theorem bneq_4 (a b : Bool) : aBin p .neq 4 (.bool a) (.bool b) = some (.bool (a != b)) := bin_bool_neq Try.underlying4 a b
theorem sz_5 : szOf p 5 = some 1 := by kernel_rfl
@[simp] theorem ld_5 (W : World) (S : St) (a : Addr) : aLoad p W S 5 (.pointer (some a)) = S.cell W a := by kernel_rfl
@[simp] theorem st_5 (S : St) (a : Addr) (k : IntKind) (i : Int) : aStore p S 5 (.pointer (some a)) (.int k i) = S.put a [.int k i] := store_mk (by exact sz_5) rfl
theorem sz_9 : szOf p 9 = some 1 := by kernel_rfl
@[simp] theorem ld_9 (W : World) (S : St) (a : Addr) : aLoad p W S 9 (.pointer (some a)) = S.cell W a := by kernel_rfl
@[simp] theorem st_9 (S : St) (a : Addr) (i : ByteArray) : aStore p S 9 (.pointer (some a)) (.string i) = S.put a [.string i] := store_mk (by exact sz_9) rfl
@[simp] theorem len_9 (W : World) (S : St) (s : ByteArray) : aLen p W S #[9] #[.string s] = some (.int .i64 s.size) := len_str Try.underlying9 S s
theorem sz_22 : szOf p 22 = some 1 := by kernel_rfl
@[simp] theorem ld_22 (W : World) (S : St) (a : Addr) : aLoad p W S 22 (.pointer (some a)) = S.cell W a := by kernel_rfl
@[simp] theorem st_22 (S : St) (a : Addr) (x : Option Addr) (n c : Nat) : aStore p S 22 (.pointer (some a)) (.slice x n c) = S.put a [.slice x n c] := store_mk (by exact sz_22) rfl
@[simp] theorem len_22 (W : World) (S : St) (a : Option Addr) (n c : Nat) : aLen p W S #[22] #[.slice a n c] = some (.int .i64 n) := len_slice Try.underlying22 S a n c
@[simp] theorem ix_22 (b o n c : Nat) (k : IntKind) (i : Int) (h0 : 0 ≤ i) (h1 : i < n) : aIndexAddr p 22 (.slice (some ⟨b, o, none⟩) n c) (.int k i) = some (.pointer (some ⟨b, o + i.toNat * 6, none⟩)) := (index_mk Try.underlying22 (by kernel_rfl) h0 h1).trans (by rw [add_mk])
@[simp] theorem bsl_22 (a : Option Addr) (l c l2 c2 : Nat) : aBin p .eql 22 (.slice a l c) (.slice none l2 c2) = some (.bool a.isNone) := bin_sl_eql Try.underlying22 a l c l2 c2
theorem sz_24 : szOf p 24 = some 1 := by kernel_rfl
@[simp] theorem ld_24 (W : World) (S : St) (a : Addr) : aLoad p W S 24 (.pointer (some a)) = S.cell W a := by kernel_rfl
@[simp] theorem st_24 (S : St) (a : Addr) (x : Option Addr) : aStore p S 24 (.pointer (some a)) (.pointer x) = S.put a [.pointer x] := store_mk (by exact sz_24) rfl
@[simp] theorem beql_24 (a : Option Addr) : aBin p .eql 24 (.pointer a) (.pointer none) = some (.bool a.isNone) := bin_ptr_eql Try.underlying24 a
@[simp] theorem bneq_24 (a : Option Addr) : aBin p .neq 24 (.pointer a) (.pointer none) = some (.bool (!a.isNone)) := bin_ptr_neq Try.underlying24 a
theorem sz_25 : szOf p 25 = some 1 := by kernel_rfl
@[simp] theorem ld_25 (W : World) (S : St) (a : Addr) : aLoad p W S 25 (.pointer (some a)) = S.cell W a := by kernel_rfl
@[simp] theorem st_25 (S : St) (a : Addr) (k : IntKind) (i : Int) : aStore p S 25 (.pointer (some a)) (.int k i) = S.put a [.int k i] := store_mk (by exact sz_25) rfl
theorem sz_28 : szOf p 28 = some 1 := by kernel_rfl
@[simp] theorem ld_28 (W : World) (S : St) (a : Addr) : aLoad p W S 28 (.pointer (some a)) = S.cell W a := by kernel_rfl
@[simp] theorem st_28 (S : St) (a : Addr) (x : Option Addr) (n c : Nat) : aStore p S 28 (.pointer (some a)) (.slice x n c) = S.put a [.slice x n c] := store_mk (by exact sz_28) rfl
@[simp] theorem len_28 (W : World) (S : St) (a : Option Addr) (n c : Nat) : aLen p W S #[28] #[.slice a n c] = some (.int .i64 n) := len_slice Try.underlying28 S a n c
@[simp] theorem ix_28 (b o n c : Nat) (k : IntKind) (i : Int) (h0 : 0 ≤ i) (h1 : i < n) : aIndexAddr p 28 (.slice (some ⟨b, o, none⟩) n c) (.int k i) = some (.pointer (some ⟨b, o + i.toNat * 5, none⟩)) := (index_mk Try.underlying28 (by kernel_rfl) h0 h1).trans (by rw [add_mk])
@[simp] theorem bsl_28 (a : Option Addr) (l c l2 c2 : Nat) : aBin p .eql 28 (.slice a l c) (.slice none l2 c2) = some (.bool a.isNone) := bin_sl_eql Try.underlying28 a l c l2 c2
theorem sz_30 : szOf p 30 = some 5 := by kernel_rfl
@[simp] theorem fa_30_0 (b o : Nat) : aFieldAddr p 30 (.pointer (some ⟨b, o, none⟩)) 0 = some (.pointer (some ⟨b, o, none⟩)) := by kernel_rfl
@[simp] theorem fa_30_1 (b o : Nat) : aFieldAddr p 30 (.pointer (some ⟨b, o, none⟩)) 1 = some (.pointer (some ⟨b, o + 1, none⟩)) := by kernel_rfl
@[simp] theorem fa_30_2 (b o : Nat) : aFieldAddr p 30 (.pointer (some ⟨b, o, none⟩)) 2 = some (.pointer (some ⟨b, o + 2, none⟩)) := by kernel_rfl
@[simp] theorem fa_30_3 (b o : Nat) : aFieldAddr p 30 (.pointer (some ⟨b, o, none⟩)) 3 = some (.pointer (some ⟨b, o + 3, none⟩)) := by kernel_rfl
@[simp] theorem fa_30_4 (b o : Nat) : aFieldAddr p 30 (.pointer (some ⟨b, o, none⟩)) 4 = some (.pointer (some ⟨b, o + 4, none⟩)) := by kernel_rfl
@[simp] theorem ld_30 (W : World) (S : St) (a : Addr) : aLoad p W S 30 (.pointer (some a)) = aggOf (S.cells W a 5) := by kernel_rfl
@[simp] theorem st_30 (S : St) (a : Addr) (x0 x1 x2 x3 x4 : Value) : aStore p S 30 (.pointer (some a)) (.agg #[x0, x1, x2, x3, x4]) = S.put a [x0, x1, x2, x3, x4] := store_mk (by exact sz_30) rfl
theorem sz_32 : szOf p 32 = some 6 := by kernel_rfl
@[simp] theorem fa_32_0 (b o : Nat) : aFieldAddr p 32 (.pointer (some ⟨b, o, none⟩)) 0 = some (.pointer (some ⟨b, o, none⟩)) := by kernel_rfl
@[simp] theorem fa_32_1 (b o : Nat) : aFieldAddr p 32 (.pointer (some ⟨b, o, none⟩)) 1 = some (.pointer (some ⟨b, o + 1, none⟩)) := by kernel_rfl
@[simp] theorem ld_32 (W : World) (S : St) (a : Addr) : aLoad p W S 32 (.pointer (some a)) = aggOf (S.cells W a 6) := by kernel_rfl
@[simp] theorem st_32 (S : St) (a : Addr) (x0 x1 x2 x3 x4 x5 : Value) : aStore p S 32 (.pointer (some a)) (.agg #[x0, x1, x2, x3, x4, x5]) = S.put a [x0, x1, x2, x3, x4, x5] := store_mk (by exact sz_32) rfl
theorem sz_45 : szOf p 45 = some 1 := by kernel_rfl
@[simp] theorem ld_45 (W : World) (S : St) (a : Addr) : aLoad p W S 45 (.pointer (some a)) = S.cell W a := by kernel_rfl
@[simp] theorem st_45 (S : St) (a : Addr) (x : Option Addr) (n c : Nat) : aStore p S 45 (.pointer (some a)) (.slice x n c) = S.put a [.slice x n c] := store_mk (by exact sz_45) rfl
@[simp] theorem len_45 (W : World) (S : St) (a : Option Addr) (n c : Nat) : aLen p W S #[45] #[.slice a n c] = some (.int .i64 n) := len_slice Try.underlying45 S a n c
@[simp] theorem ix_45 (b o n c : Nat) (k : IntKind) (i : Int) (h0 : 0 ≤ i) (h1 : i < n) : aIndexAddr p 45 (.slice (some ⟨b, o, none⟩) n c) (.int k i) = some (.pointer (some ⟨b, o + i.toNat * 1, none⟩)) := (index_mk Try.underlying45 (by kernel_rfl) h0 h1).trans (by rw [add_mk])
@[simp] theorem bsl_45 (a : Option Addr) (l c l2 c2 : Nat) : aBin p .eql 45 (.slice a l c) (.slice none l2 c2) = some (.bool a.isNone) := bin_sl_eql Try.underlying45 a l c l2 c2
theorem sz_49 : szOf p 49 = some 4 := by kernel_rfl
@[simp] theorem fa_49_0 (b o : Nat) : aFieldAddr p 49 (.pointer (some ⟨b, o, none⟩)) 0 = some (.pointer (some ⟨b, o, none⟩)) := by kernel_rfl
@[simp] theorem fa_49_1 (b o : Nat) : aFieldAddr p 49 (.pointer (some ⟨b, o, none⟩)) 1 = some (.pointer (some ⟨b, o + 1, none⟩)) := by kernel_rfl
@[simp] theorem fa_49_2 (b o : Nat) : aFieldAddr p 49 (.pointer (some ⟨b, o, none⟩)) 2 = some (.pointer (some ⟨b, o + 2, none⟩)) := by kernel_rfl
@[simp] theorem fa_49_3 (b o : Nat) : aFieldAddr p 49 (.pointer (some ⟨b, o, none⟩)) 3 = some (.pointer (some ⟨b, o + 3, none⟩)) := by kernel_rfl
@[simp] theorem ld_49 (W : World) (S : St) (a : Addr) : aLoad p W S 49 (.pointer (some a)) = aggOf (S.cells W a 4) := by kernel_rfl
@[simp] theorem st_49 (S : St) (a : Addr) (x0 x1 x2 x3 : Value) : aStore p S 49 (.pointer (some a)) (.agg #[x0, x1, x2, x3]) = S.put a [x0, x1, x2, x3] := store_mk (by exact sz_49) rfl
theorem sz_50 : szOf p 50 = some 1 := by kernel_rfl
@[simp] theorem ld_50 (W : World) (S : St) (a : Addr) : aLoad p W S 50 (.pointer (some a)) = S.cell W a := by kernel_rfl
@[simp] theorem st_50 (S : St) (a : Addr) (x : Option Addr) (n c : Nat) : aStore p S 50 (.pointer (some a)) (.slice x n c) = S.put a [.slice x n c] := store_mk (by exact sz_50) rfl
@[simp] theorem len_50 (W : World) (S : St) (a : Option Addr) (n c : Nat) : aLen p W S #[50] #[.slice a n c] = some (.int .i64 n) := len_slice Try.underlying50 S a n c
@[simp] theorem ix_50 (b o n c : Nat) (k : IntKind) (i : Int) (h0 : 0 ≤ i) (h1 : i < n) : aIndexAddr p 50 (.slice (some ⟨b, o, none⟩) n c) (.int k i) = some (.pointer (some ⟨b, o + i.toNat * 1, none⟩)) := (index_mk Try.underlying50 (by kernel_rfl) h0 h1).trans (by rw [add_mk])
@[simp] theorem bsl_50 (a : Option Addr) (l c l2 c2 : Nat) : aBin p .eql 50 (.slice a l c) (.slice none l2 c2) = some (.bool a.isNone) := bin_sl_eql Try.underlying50 a l c l2 c2
theorem sz_53 : szOf p 53 = some 1 := by kernel_rfl
@[simp] theorem ld_53 (W : World) (S : St) (a : Addr) : aLoad p W S 53 (.pointer (some a)) = S.cell W a := by kernel_rfl
@[simp] theorem st_53 (S : St) (a : Addr) (x : Option Addr) : aStore p S 53 (.pointer (some a)) (.pointer x) = S.put a [.pointer x] := store_mk (by exact sz_53) rfl
@[simp] theorem beql_53 (a : Option Addr) : aBin p .eql 53 (.pointer a) (.pointer none) = some (.bool a.isNone) := bin_ptr_eql Try.underlying53 a
@[simp] theorem bneq_53 (a : Option Addr) : aBin p .neq 53 (.pointer a) (.pointer none) = some (.bool (!a.isNone)) := bin_ptr_neq Try.underlying53 a
theorem sz_56 : szOf p 56 = some 1 := by kernel_rfl
@[simp] theorem ld_56 (W : World) (S : St) (a : Addr) : aLoad p W S 56 (.pointer (some a)) = S.cell W a := by kernel_rfl
@[simp] theorem st_56 (S : St) (a : Addr) (k : IntKind) (i : Int) : aStore p S 56 (.pointer (some a)) (.int k i) = S.put a [.int k i] := store_mk (by exact sz_56) rfl
theorem sz_59 : szOf p 59 = some 1 := by kernel_rfl
@[simp] theorem ld_59 (W : World) (S : St) (a : Addr) : aLoad p W S 59 (.pointer (some a)) = S.cell W a := by kernel_rfl
@[simp] theorem st_59 (S : St) (a : Addr) (k : IntKind) (i : Int) : aStore p S 59 (.pointer (some a)) (.int k i) = S.put a [.int k i] := store_mk (by exact sz_59) rfl
theorem sz_60 : szOf p 60 = some 1 := by kernel_rfl
@[simp] theorem ld_60 (W : World) (S : St) (a : Addr) : aLoad p W S 60 (.pointer (some a)) = S.cell W a := by kernel_rfl
@[simp] theorem st_60 (S : St) (a : Addr) (k : IntKind) (i : Int) : aStore p S 60 (.pointer (some a)) (.int k i) = S.put a [.int k i] := store_mk (by exact sz_60) rfl
@[simp] theorem al_30 (S : St) : aAlloc p S 30 = some (.pointer (some ⟨S.c, 0, none⟩), S.new (.row [.int .i64 0, .int .i64 0, .int .i64 0, .string .empty, .int .i64 0] 0)) := by kernel_rfl
@[simp] theorem al_32 (S : St) : aAlloc p S 32 = some (.pointer (some ⟨S.c, 0, none⟩), S.new (.row [.int .i64 0, .int .i64 0, .int .i64 0, .int .i64 0, .string .empty, .int .i64 0] 0)) := by kernel_rfl
@[simp] theorem bu_30_  : aBuild p 30 #[] = some (.agg #[.int .i64 0, .int .i64 0, .int .i64 0, .string .empty, .int .i64 0]) := by kernel_rfl
@[simp] theorem bu_30_0_2_4 (i0 : Int) (i2 : Int) (i4 : Int) : aBuild p 30 #[(0, .int .i64 i0), (2, .int .i64 i2), (4, .int .i64 i4)] = some (.agg #[.int .i64 i0, .int .i64 0, .int .i64 i2, .string .empty, .int .i64 i4]) := by kernel_rfl
@[simp] theorem bu_49_0 (i0 : Int) : aBuild p 49 #[(0, .int .i64 i0)] = some (.agg #[.int .i64 i0, .int .i64 0, .slice none 0 0, .slice none 0 0]) := by kernel_rfl
@[simp] theorem bs_28_1_0 (S : St) (x0_0 x0_1 x0_2 x0_3 x0_4 : Value) : aBuildSlice p S 28 1 #[(0, .agg #[x0_0, x0_1, x0_2, x0_3, x0_4])] = some (.slice (some ⟨S.c, 0, none⟩) 1 1, S.new (.row [x0_0, x0_1, x0_2, x0_3, x0_4] 0)) := by kernel_rfl
@[simp] theorem bs_50_1_0 (S : St) (i0 : Int) : aBuildSlice p S 50 1 #[(0, .int .u8 i0)] = some (.slice (some ⟨S.c, 0, none⟩) 1 1, S.new (.row [.int .u8 i0] 0)) := by kernel_rfl
@[simp] theorem bs_50_4_0_1_2_3 (S : St) (i0 : Int) (i1 : Int) (i2 : Int) (i3 : Int) : aBuildSlice p S 50 4 #[(0, .int .u8 i0), (1, .int .u8 i1), (2, .int .u8 i2), (3, .int .u8 i3)] = some (.slice (some ⟨S.c, 0, none⟩) 4 4, S.new (.row [.int .u8 i0, .int .u8 i1, .int .u8 i2, .int .u8 i3] 0)) := by kernel_rfl
@[simp] theorem cv_3_5 (W : World) (S : St) (k : IntKind) (x : Int) : aConv p W S 3 5 (.int k x) = some (.int .u8 (IntKind.u8.wrap x), S) := conv_int Try.underlying3 Try.underlying5 S k x
@[simp] theorem cv_3_56 (W : World) (S : St) (k : IntKind) (x : Int) : aConv p W S 3 56 (.int k x) = some (.int .u64 (IntKind.u64.wrap x), S) := conv_int Try.underlying3 Try.underlying56 S k x
@[simp] theorem cv_3_59 (W : World) (S : St) (k : IntKind) (x : Int) : aConv p W S 3 59 (.int k x) = some (.int .u64 (IntKind.u64.wrap x), S) := conv_int Try.underlying3 Try.underlying59 S k x
@[simp] theorem cv_5_3 (W : World) (S : St) (k : IntKind) (x : Int) : aConv p W S 5 3 (.int k x) = some (.int .i64 (IntKind.i64.wrap x), S) := conv_int Try.underlying5 Try.underlying3 S k x
@[simp] theorem cv_5_60 (W : World) (S : St) (k : IntKind) (x : Int) : aConv p W S 5 60 (.int k x) = some (.int .u32 (IntKind.u32.wrap x), S) := conv_int Try.underlying5 Try.underlying60 S k x
@[simp] theorem cv_56_5 (W : World) (S : St) (k : IntKind) (x : Int) : aConv p W S 56 5 (.int k x) = some (.int .u8 (IntKind.u8.wrap x), S) := conv_int Try.underlying56 Try.underlying5 S k x
@[simp] theorem cv_60_56 (W : World) (S : St) (k : IntKind) (x : Int) : aConv p W S 60 56 (.int k x) = some (.int .u64 (IntKind.u64.wrap x), S) := conv_int Try.underlying60 Try.underlying56 S k x
end Go.Proofs.Ytjfmapoangigoaa.F
