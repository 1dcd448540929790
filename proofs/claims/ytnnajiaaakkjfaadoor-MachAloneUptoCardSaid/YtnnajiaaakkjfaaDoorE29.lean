/- Words for texts in which tests are names: both ways are reckoned, and what a call leaves behind is forgotten. -/
import Derived.Test.YtnnajiaaakkjfaaDoorE28
namespace Go.Proofs.YtnnajiaaakkjfaaDoor.E
open Go Go.RowKit
set_option linter.unusedVariables false

theorem nat_lt_id {a b : Nat} (h : a < b) : a < b := h
theorem nat_le_id {a b : Nat} (h : a ≤ b) : a ≤ b := h
theorem nat_ne_id {a b : Nat} (h : a ≠ b) : a ≠ b := h
theorem int_lt_id {a b : Int} (h : a < b) : a < b := h
theorem int_le_id {a b : Int} (h : a ≤ b) : a ≤ b := h
theorem Low.rfl' (S : St) : Low S S := ⟨rfl, Nat.le_refl _, fun _ _ => rfl⟩
theorem Low.new {S T : St} (h : Low S T) (o : AObj) : Low S (T.new o) := ⟨h.1, Nat.le_succ_of_le h.2.1, fun i hi => (if_neg (by have := h.2.1; omega)).trans (h.2.2 i hi)⟩
theorem Low.upd {S T : St} {i : Nat} (h : Low S T) (hi : S.c ≤ i) (o : AObj) : Low S (T.upd i o) := ⟨h.1, h.2.1, fun j hj => (if_neg (by omega)).trans (h.2.2 j hj)⟩
theorem Low.trans {S T U : St} (h : Low S T) (k : Low T U) : Low S U := ⟨k.1.trans h.1, Nat.le_trans h.2.1 k.2.1, fun i hi => (k.2.2 i (Nat.lt_of_lt_of_le hi h.2.1)).trans (h.2.2 i hi)⟩
theorem Low.relock {S T : St} {l : Nat} (h : Low (S.relock l) T) : Low S (T.relock S.lock) := ⟨rfl, h.2.1, h.2.2⟩
theorem Low.lower {S T : St} {o : AObj} (h : Low (S.new o) T) : Low S T := (Low.new (Low.rfl' S) o).trans h
theorem Gd.ext {W : World} {S S' : St} (g : Gd W S) (h : Ext [] S S') : Gd W S' := h.good g
theorem Gd.upd {W : World} {S : St} (g : Gd W S) {i : Nat} (hi : i < S.c) {o : AObj} (ho : objLt S.c o = true) : Gd W (S.upd i o) := (Ext.upd g.ok hi ho).good g

section
variable {β : Type} {P : Program} {W : World} {S S' : St}
theorem gcR_some {args : List Value} {v : Value} (hf : flatR v = true) (hl : Low S S') (hc : Cl S) (ha : args.all (vlt S.c) = true) : gcR args.toArray S (some (v, S')) = some (v, S) := by
  unfold gcR
  exact if_pos ⟨hf, hl, hc, by simpa using ha⟩
theorem gcR_wp {args : List Value} {v : Value} {o : Option (Value × St)} (g : Gd W S) (ha : args.all (vlt S.c) = true) (hf : flatR v = true) (h : Wp o fun r => r.1 = v ∧ Low S r.2) : gcR args.toArray S o = some (v, S) := by
  obtain ⟨⟨v', S'⟩, rfl, rfl, h2⟩ := h
  exact gcR_some hf h2 g.cl ha
theorem gcR_cond {args : Array Value} {v : Value} {a b : Option (Value × St)} : gcR args S (condK v a b) = condK v (gcR args S a) (gcR args S b) := by
  unfold condK
  cases v <;> first | rfl | (rename_i b; cases b <;> rfl)
theorem Wp.leaf {v v' : Value} (hv : v' = v) (hl : Low S S') : Wp (some (v', S')) fun r => r.1 = v ∧ Low S r.2 := ⟨_, rfl, hv, hl⟩
theorem Wp.cond {b : Bool} {t e : Option β} {Q : β → Prop} (h1 : b = true → Wp t Q) (h2 : b = false → Wp e Q) : Wp (condK (.bool b) t e) Q := by
  cases b
  · exact h2 rfl
  · exact h1 rfl
@[simp] theorem flatR_int (k : IntKind) (i : Int) : flatR (.int k i) = true := rfl
@[simp] theorem flatR_bool (b : Bool) : flatR (.bool b) = true := rfl
@[simp] theorem flatR_string (b : ByteArray) : flatR (.string b) = true := rfl
@[simp] theorem flatR_tuple (l : List Value) : flatR (.tuple l.toArray) = l.all flat := by simp [flatR]
@[simp] theorem flatR_agg (l : List Value) : flatR (.agg l.toArray) = l.all flat0 := by simp [flatR, flat]

/-- Both ways. -/
noncomputable def condB (q : Prop) (t e : Option β) : Option β := @ite _ q (Classical.propDecidable q) t e
@[congr] theorem condB_congr {q q' : Prop} {t t' e e' : Option β} (h : q = q') (h1 : q' → t = t') (h2 : ¬ q' → e = e') : condB q t e = condB q' t' e' := by
  subst h
  unfold condB
  by_cases hq : q
  · rw [if_pos hq, if_pos hq, h1 hq]
  · rw [if_neg hq, if_neg hq, h2 hq]
theorem condK_B (b : Bool) (t e : Option β) : condK (.bool b) t e = condB (b = true) t e := by
  unfold condB
  cases b
  · rw [if_neg Bool.false_ne_true]; rfl
  · rw [if_pos rfl]; rfl
theorem condB_pos {q : Prop} (h : q) (t e : Option β) : condB q t e = t := if_pos h
theorem condB_neg {q : Prop} (h : ¬ q) (t e : Option β) : condB q t e = e := if_neg h
@[simp] theorem condB_true (t e : Option β) : condB True t e = t := if_pos trivial
@[simp] theorem condB_false (t e : Option β) : condB False t e = e := if_neg not_false
theorem gcR_B {args : Array Value} {q : Prop} {a b : Option (Value × St)} : gcR args S (condB q a b) = condB q (gcR args S a) (gcR args S b) := by
  by_cases h : q
  · rw [condB_pos h, condB_pos h]
  · rw [condB_neg h, condB_neg h]
theorem condB_bool (q : Prop) (b c : Bool) (S : St) : condB q (some (Value.bool b, S)) (some (Value.bool c, S)) = some (Value.bool (@ite _ q (Classical.propDecidable q) b c), S) := by
  by_cases h : q
  · rw [condB_pos h, if_pos h]
  · rw [condB_neg h, if_neg h]
theorem condB_eq {q : Prop} {t e r : Option β} (h1 : q → t = r) (h2 : ¬ q → e = r) : condB q t e = r := by
  by_cases h : q
  · rw [condB_pos h, h1 h]
  · rw [condB_neg h, h2 h]
theorem bindO_B {γ : Type} (q : Prop) (a b : Out) (k : Exit → Act → St → Option γ) : bindO (condB q a b) k = condB q (bindO a k) (bindO b k) := by
  by_cases h : q
  · rw [condB_pos h, condB_pos h]
  · rw [condB_neg h, condB_neg h]
theorem bindS_B (q : Prop) (a b : Option (Value × St)) (k : Value → St → Option β) : bindS (condB q a b) k = condB q (bindS a k) (bindS b k) := by
  by_cases h : q
  · rw [condB_pos h, condB_pos h]
  · rw [condB_neg h, condB_neg h]

/-! Guards that are names -/
theorem gV_t (b : Bool) (k : Bool → Option β) : gV (.bool b) true k = k b := by cases b <;> rfl
theorem gV_f (b : Bool) (k : Bool → Option β) : gV (.bool b) false k = k (!b) := by cases b <;> rfl
theorem wO_val (g : Bool) (v : Value) : wO g (some v) = some (wV g v) := by cases g <;> rfl
theorem wS_val (g : Bool) (S : St) (v : Value) : wS g S (some (v, S)) = some (wV g v, S) := by cases g <;> rfl
theorem wV_pos {g : Bool} (h : IsT g) (v : Value) : wV g v = v := by
  have h : g = true := h
  subst h
  rfl
theorem IsT.left {b c : Bool} (h : IsT (b && c)) : IsT b := by unfold IsT at *; simp at h; exact h.1
theorem gV_wt (b c : Bool) (k : Bool → Option β) : gV (wV b (.bool c)) true k = k (b && c) := by cases b <;> cases c <;> rfl
theorem gV_wf (b c : Bool) (k : Bool → Option β) : gV (wV b (.bool c)) false k = k (b && !c) := by cases b <;> cases c <;> rfl
theorem wV_wV (b : Bool) (v : Value) : wV b (wV b v) = wV b v := by cases b <;> rfl
theorem wV_and {b : Bool} (h : IsT b) (c : Bool) (v : Value) : wV (b && c) v = wV c v := by
  have h : b = true := h
  subst h
  rfl
theorem pick_and (b c : Bool) : aPick (.bool b) (wV b (.bool c)) (.bool false) = some (.bool (b && c)) := by cases b <;> rfl
theorem pick_or (b c : Bool) : aPick (.bool b) (.bool true) (wV (!b) (.bool c)) = some (.bool (b || c)) := by cases b <;> rfl
theorem pick_int (b : Bool) (k : IntKind) (x y : Int) : aPick (.bool b) (.int k x) (.int k y) = some (.int k (if b then x else y)) := by cases b <;> rfl
theorem pick_bool (b x y : Bool) : aPick (.bool b) (.bool x) (.bool y) = some (.bool (if b then x else y)) := by cases b <;> rfl
end

@[simp] theorem flat_int (k : IntKind) (i : Int) : flat (.int k i) = true := rfl
@[simp] theorem flat_bool (b : Bool) : flat (.bool b) = true := rfl
@[simp] theorem flat_string (b : ByteArray) : flat (.string b) = true := rfl
@[simp] theorem flat_agg (l : List Value) : flat (.agg l.toArray) = l.all flat0 := by simp [flat]
@[simp] theorem flat0_int (k : IntKind) (i : Int) : flat0 (.int k i) = true := rfl
@[simp] theorem flat0_bool (b : Bool) : flat0 (.bool b) = true := rfl
@[simp] theorem flat0_string (b : ByteArray) : flat0 (.string b) = true := rfl

/-! Structures are the same part by part. -/
theorem andF_dec (q r : Prop) [Decidable q] [Decidable r] : andF (some (decide q)) (some (decide r)) = some (decide (q ∧ r)) := by
  by_cases h1 : q <;> by_cases h2 : r <;> simp [andF, h1, h2]
theorem andF_end (q : Prop) [Decidable q] : andF (some (decide q)) (some true) = some (decide q) := by
  by_cases h1 : q <;> simp [andF, h1]
theorem beq_int (x y : Int) : (x == y) = decide (x = y) := by rw [Bool.eq_iff_iff, beq_iff_eq, decide_eq_true_iff]
theorem beq_bl (x y : Bool) : (x == y) = decide (x = y) := by rw [Bool.eq_iff_iff, beq_iff_eq, decide_eq_true_iff]
theorem beq_ba (x y : ByteArray) : (x == y) = decide (x = y) := by
  have h : (x == y) = (x.data == y.data) := rfl
  rw [h, Bool.eq_iff_iff, beq_iff_eq, decide_eq_true_iff]
  exact ⟨fun e => ByteArray.ext e, fun e => by rw [e]⟩

/-! Bits -/
theorem and_nat (n m : Nat) (hn : n < 4294967296) (hm : m < 4294967296) : Go.bits .and .u32 (n : Int) (m : Int) = ((n &&& m : Nat) : Int) := by
  have h : n &&& m < 4294967296 := Nat.lt_of_le_of_lt Nat.and_le_left hn
  unfold Go.bits
  show IntKind.u32.wrap _ = _
  have e : (BitVec.ofInt 32 (n : Int) &&& BitVec.ofInt 32 (m : Int)).toNat = n &&& m := by
    rw [BitVec.toNat_and, BitVec.ofInt_natCast, BitVec.ofInt_natCast, BitVec.toNat_ofNat, BitVec.toNat_ofNat, Nat.mod_eq_of_lt (by omega), Nat.mod_eq_of_lt (by omega)]
  rw [wrapu32 (by omega) (by show ((BitVec.ofInt 32 (n : Int) &&& BitVec.ofInt 32 (m : Int)).toNat : Int) < _; omega)]
  exact congrArg _ e
theorem or_nat (n m : Nat) (hn : n < 4294967296) (hm : m < 4294967296) : Go.bits .or .u32 (n : Int) (m : Int) = ((n ||| m : Nat) : Int) := by
  have h : n ||| m < 4294967296 := Nat.or_lt_two_pow (n := 32) hn hm
  unfold Go.bits
  show IntKind.u32.wrap _ = _
  have e : (BitVec.ofInt 32 (n : Int) ||| BitVec.ofInt 32 (m : Int)).toNat = n ||| m := by
    rw [BitVec.toNat_or, BitVec.ofInt_natCast, BitVec.ofInt_natCast, BitVec.toNat_ofNat, BitVec.toNat_ofNat, Nat.mod_eq_of_lt (by omega), Nat.mod_eq_of_lt (by omega)]
  rw [wrapu32 (by omega) (by show ((BitVec.ofInt 32 (n : Int) ||| BitVec.ofInt 32 (m : Int)).toNat : Int) < _; omega)]
  exact congrArg _ e
theorem andNot_nat (n m : Nat) (hn : n < 4294967296) (hm : m < 4294967296) : Go.bits .andNot .u32 (n : Int) (m : Int) = ((n &&& (4294967295 - m) : Nat) : Int) := by
  have h : n &&& (4294967295 - m) < 4294967296 := Nat.lt_of_le_of_lt Nat.and_le_left hn
  unfold Go.bits
  show IntKind.u32.wrap _ = _
  have e : (BitVec.ofInt 32 (n : Int) &&& ~~~ BitVec.ofInt 32 (m : Int)).toNat = n &&& (4294967295 - m) := by
    rw [BitVec.toNat_and, BitVec.toNat_not, BitVec.ofInt_natCast, BitVec.ofInt_natCast, BitVec.toNat_ofNat, BitVec.toNat_ofNat, Nat.mod_eq_of_lt (by omega), Nat.mod_eq_of_lt (by omega)]
  rw [wrapu32 (by omega) (by show ((BitVec.ofInt 32 (n : Int) &&& ~~~ BitVec.ofInt 32 (m : Int)).toNat : Int) < _; omega)]
  exact congrArg _ e
theorem mask63 (n : Nat) (hn : n < 4294967296) : Go.bits .and .u32 (n : Int) 63 = ((n % 64 : Nat) : Int) := by
  have := and_nat n 63 hn (by omega)
  rw [show ((63 : Nat) : Int) = 63 from rfl] at this
  rw [this, show 63 = 2 ^ 6 - 1 from rfl, Nat.and_two_pow_sub_one_eq_mod]

/-! Rows that are read, wherever they lie -/
section
variable {α : Type} {T : Enc α} {P : Program} {W : World} {S S' : St}
/-- A slice that reads as these things. -/
def Rd (T : Enc α) (W : World) (S : St) (v : Value) (l : List α) : Prop :=
  vlt1 S.c v = true ∧ ((∃ a c, v = .slice a 0 c ∧ l = []) ∨
  ∃ b o c, v = .slice (some ⟨b, o, none⟩) l.length c ∧ l.length ≤ c ∧ 0 < l.length ∧ b < S.c ∧ S.fx W ⟨b, o, none⟩ ≠ none ∧ (b < W.heap.size → S.fx W ⟨b, o, none⟩ = some 0) ∧
    ∀ j, (hj : j < l.length) → S.cells W ⟨b, o + j * T.k, none⟩ T.k = some (T.cs l[j]) ∧ ∀ i, i < T.k → S.cell W ⟨b, o + j * T.k + i, none⟩ = nth (T.cs l[j]) i)
theorem cells_same {a : Addr} {n : Nat} (h : S'.heap a.block = S.heap a.block) : S'.cells W a n = S.cells W a n := by unfold St.cells; rw [h]
theorem cell_same {a : Addr} (h : S'.heap a.block = S.heap a.block) : S'.cell W a = S.cell W a := by unfold St.cell; rw [h]
theorem fx_same {a : Addr} (h : S'.heap a.block = S.heap a.block) : S'.fx W a = S.fx W a := by unfold St.fx; rw [h]
theorem Rd.low {v : Value} {l : List α} (h : Rd T W S v l) (k : Low S S') : Rd T W S' v l := by
  obtain ⟨h0, h | ⟨b, o, c, h1, h2, h3, h4, h5, h6, h7⟩⟩ := h
  · exact ⟨vlt1_mono k.2.1 h0, .inl h⟩
  · have e := k.2.2 b h4
    refine ⟨vlt1_mono k.2.1 h0, .inr ⟨b, o, c, h1, h2, h3, Nat.lt_of_lt_of_le h4 k.2.1, by rw [fx_same e]; exact h5, fun q => by rw [fx_same e]; exact h6 q, fun j hj => ?_⟩⟩
    obtain ⟨q1, q2⟩ := h7 j hj
    exact ⟨by rw [cells_same e]; exact q1, fun i hi => by rw [cell_same e]; exact q2 i hi⟩
theorem Rd.ext {v : Value} {l : List α} {D : List Nat} (h : Rd T W S v l) (k : Ext D S S') (hd : ∀ i, i ∈ blkOf v → i ∉ D) : Rd T W S' v l := by
  obtain ⟨h0, h | ⟨b, o, c, h1, h2, h3, h4, h5, h6, h7⟩⟩ := h
  · exact ⟨vlt1_mono k.c h0, .inl h⟩
  · have e := k.same b h4 (hd b (by rw [h1]; simp [blkOf]))
    refine ⟨vlt1_mono k.c h0, .inr ⟨b, o, c, h1, h2, h3, Nat.lt_of_lt_of_le h4 k.c, by rw [fx_same e]; exact h5, fun q => by rw [fx_same e]; exact h6 q, fun j hj => ?_⟩⟩
    obtain ⟨q1, q2⟩ := h7 j hj
    exact ⟨by rw [cells_same e]; exact q1, fun i hi => by rw [cell_same e]; exact q2 i hi⟩
theorem Rd.lt {v : Value} {l : List α} (h : Rd T W S v l) : ∀ i, i ∈ blkOf v → i < S.c := by
  intro i hi
  have h0 := h.1
  unfold blkOf at hi
  split at hi
  · simp at hi; subst hi; simpa using h0
  · simp at hi
theorem Rd.form {v : Value} {l : List α} (h : Rd T W S v l) : ∃ a c, v = .slice a l.length c := by
  obtain ⟨_, ⟨a, c, rfl, rfl⟩ | ⟨b, o, c, rfl, _⟩⟩ := h
  · exact ⟨a, c, rfl⟩
  · exact ⟨_, c, rfl⟩
theorem Rd.at {v : Value} {l : List α} (h : Rd T W S v l) (hl : 0 < l.length) : ∃ b o c, v = .slice (some ⟨b, o, none⟩) l.length c ∧ b < S.c ∧
    ∀ j, (hj : j < l.length) → S.cells W ⟨b, o + j * T.k, none⟩ T.k = some (T.cs l[j]) ∧ ∀ i, i < T.k → S.cell W ⟨b, o + j * T.k + i, none⟩ = nth (T.cs l[j]) i := by
  obtain ⟨_, ⟨a, c, rfl, rfl⟩ | ⟨b, o, c, h1, h2, h3, h4, h5, h6, h7⟩⟩ := h
  · simp at hl
  · exact ⟨b, o, c, h1, h4, h7⟩
theorem rd_nil : Rd T W S (.slice none 0 0) [] := ⟨rfl, .inl ⟨none, 0, rfl, rfl⟩⟩
theorem OldSl.rd (hf : ∀ a, (T.cs a).all flat0 = true) {v : Value} {l : List α} (h : OldSl T W v l) (g : Gd W S) : Rd T W S v l := by
  by_cases hl : 0 < l.length
  · obtain ⟨b, o, c, rfl, h1, h2, h3, h4⟩ := h.get hf hl
    have hb : b < S.c := Nat.lt_of_lt_of_le h2 g.n
    exact ⟨by simpa using hb, .inr ⟨b, o, c, rfl, h1, hl, hb, by rw [h3 S]; simp, fun _ => h3 S, fun j hj => h4 S j hj⟩⟩
  · have : l = [] := List.eq_nil_of_length_eq_zero (by omega)
    subst this
    rcases h with ⟨rfl, _⟩ | ⟨b, o, c, rfl, h1, h2, h3⟩
    · exact rd_nil
    · exact ⟨by simpa using Nat.lt_of_lt_of_le h1 g.n, .inl ⟨_, c, rfl, rfl⟩⟩
theorem Sl.rd {v : Value} {l : List α} (h : Sl T S v l) (g : Gd W S) : Rd T W S v l := by
  by_cases hl : 0 < l.length
  · obtain ⟨b, o, c, rfl, h1, h2, h3, h4, h5, h6⟩ := h.get g hl
    exact ⟨by simpa using h4, .inr ⟨b, o, c, rfl, h1, hl, h4, by rw [h5]; simp, fun q => by omega, h6⟩⟩
  · have : l = [] := List.eq_nil_of_length_eq_zero (by omega)
    subst this
    have hlt := h.lt g.ok
    obtain ⟨a, c, rfl⟩ := h.form
    refine ⟨?_, .inl ⟨a, c, rfl, rfl⟩⟩
    cases a with
    | none => rfl
    | some a => simpa [blkOf] using hlt
/-- A row laid at once. -/
theorem rd_made {S : St} (g : Gd W S) {k : Nat} (l : List α) {n c : Nat} (hn : n = l.length) (h0 : 0 < l.length) (hc : n ≤ c) {b : Nat} (hb : W.heap.size ≤ b) (hr : S.heap b = .row (T.fl l) k) : Rd T W S (.slice (some ⟨b, 0, none⟩) n c) l := by
  subst hn
  have hlt := row_lt g.ok hr
  refine ⟨by simpa using hlt, .inr ⟨b, 0, c, rfl, hc, h0, hlt, by rw [fx_row hb hr]; simp, fun q => by omega, fun j hj => ?_⟩⟩
  have key := fl_at T l j hj
  have hle : 0 + j * T.k + T.k ≤ (T.fl l).length := by
    rw [fl_len]
    have := Nat.mul_le_mul_right T.k (Nat.succ_le_of_lt hj)
    rw [Nat.succ_mul] at this
    omega
  refine ⟨?_, fun i hi => ?_⟩
  · rw [cells_at hb _ T.pos, hr, cellsOf_row, if_pos hle, Nat.zero_add, key]
  · rw [cell_at hb, hr, cellOf_row, nth_eq, nth_eq, ← key, List.getElem?_take_of_lt hi, List.getElem?_drop, Nat.zero_add]
end
end Go.Proofs.YtnnajiaaakkjfaaDoor.E
