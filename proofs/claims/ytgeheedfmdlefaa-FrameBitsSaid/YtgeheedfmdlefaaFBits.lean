/- One bit changed: the sum tells it. -/
import Derived.Test.YtgeheedfmdlefaaFControl
namespace Go.Proofs.Ytgeheedfmdlefaa.Pure
open Go.RowKit Go.Proofs.Ytgeheedfmdlefaa.PF Go.Proofs.YtgeheedfmdlefaaW.PrintWords Go.Proofs.YtgeheedfmdlefaaW.PrintLast Go.Proofs.YtgeheedfmdlefaaW.PrintMore
set_option linter.unusedVariables false

theorem xor_inj {a b c : Nat} (h : a ^^^ c = b ^^^ c) : a = b := by
  have : (a ^^^ c) ^^^ c = (b ^^^ c) ^^^ c := by rw [h]
  rw [Nat.xor_assoc, Nat.xor_assoc, Nat.xor_self, Nat.xor_zero, Nat.xor_zero] at this
  exact this
theorem xor_inj' {a b c : Nat} (h : c ^^^ a = c ^^^ b) : a = b := xor_inj (c := c) (by rw [Nat.xor_comm a, Nat.xor_comm b, h])
theorem top_poly {x : Nat} (h : x < 2147483648) : (x ^^^ 3988292384).testBit 31 = true := by
  rw [Nat.testBit_xor, Nat.testBit_lt_two_pow (by simpa using h)]
  decide
theorem top_low {x : Nat} (h : x < 2147483648) : x.testBit 31 = false := Nat.testBit_lt_two_pow (by simpa using h)
theorem step_inj {r s : Nat} (hr : r < 4294967296) (hs : s < 4294967296) (h : step r = step s) : r = s := by
  unfold step at h
  split at h <;> split at h
  · have := xor_inj h
    omega
  · have h1 := top_poly (x := r / 2) (by omega)
    rw [h, top_low (by omega)] at h1
    exact absurd h1 (by decide)
  · have h1 := top_poly (x := s / 2) (by omega)
    rw [← h, top_low (by omega)] at h1
    exact absurd h1 (by decide)
  · omega
theorem it_inj : ∀ (d : Nat) {r s : Nat}, r < 4294967296 → s < 4294967296 → it d r = it d s → r = s
  | 0, _, _, _, _, h => h
  | d + 1, _, _, hr, hs, h => step_inj hr hs (it_inj d (step_lt hr) (step_lt hs) h)
theorem byte_inj {r s c : Nat} (hr : r < 4294967296) (hs : s < 4294967296) (hc : c < 4294967296) (h : byte r c = byte s c) : r = s := xor_inj (it_inj 8 (xor_lt hr hc) (xor_lt hs hc) h)
theorem byte_inj' {r c d : Nat} (hr : r < 4294967296) (hc : c < 4294967296) (hd : d < 4294967296) (h : byte r c = byte r d) : c = d := xor_inj' (it_inj 8 (xor_lt hr hc) (xor_lt hr hd) h)
theorem reg_inj : ∀ (l : List Int) {r s : Nat}, Bytes l → r < 4294967296 → s < 4294967296 → reg r l = reg s l → r = s
  | [], _, _, _, _, _, h => h
  | c :: l, r, s, hb, hr, hs, h => by
    have h1 := hb.cons.1
    exact byte_inj hr hs (by omega) (reg_inj l hb.cons.2 (byte_lt hr (by omega)) (byte_lt hs (by omega)) h)
theorem reg_set : ∀ (l : List Int) (i : Nat) (v : Int) {r : Nat}, Bytes l → 0 ≤ v → v ≤ 255 → r < 4294967296 → (h : i < l.length) → reg r (l.set i v) = reg r l → v = l[i]
  | [], i, v, r, _, _, _, _, h, _ => absurd h (by simp)
  | c :: l, 0, v, r, hb, h0, h1, hr, h, e => by
    have h2 := hb.cons.1
    have := byte_inj' hr (by omega) (by omega) (reg_inj l hb.cons.2 (byte_lt hr (by omega)) (byte_lt hr (by omega)) e)
    show v = c
    omega
  | c :: l, i + 1, v, r, hb, h0, h1, hr, h, e => by
    have h2 := hb.cons.1
    exact reg_set l i v hb.cons.2 h0 h1 (byte_lt hr (by omega)) (by simpa using h) e
theorem crc_set {l : List Int} {i : Nat} {v : Int} (hb : Bytes l) (h0 : 0 ≤ v) (h1 : v ≤ 255) (h : i < l.length) (hv : v ≠ l[i]) : crc (l.set i v) ≠ crc l := by
  intro e
  unfold crc at e
  exact hv (reg_set l i v (r := 4294967295) hb h0 h1 (by omega) h (xor_inj' (c := 4294967295) (Int.ofNat.inj e)))
theorem bytes_set {l : List Int} (hb : Bytes l) {v : Int} (h0 : 0 ≤ v) (h1 : v ≤ 255) (i : Nat) : Bytes (l.set i v) := by
  intro x hx
  rcases List.mem_or_eq_of_mem_set hx with hx | rfl
  · exact hb x hx
  · exact ⟨h0, h1⟩
/-- A sealed text with one byte changed is not opened. -/
theorem open_set {b : List Int} (hb : Bytes b) (hl : b.length < 140737488355000) {i : Nat} {v : Int} (h0 : 0 ≤ v) (h1 : v ≤ 255) (hi : i < (shut b).length) (hv : v ≠ (shut b)[i]) {k : Nat} (hk : 10 * b.length + 60 ≤ k) :
    frame_open.f k ((shut b).set i v) = some false := by
  have hs := shut_length b
  have hc := crc_range hb
  have hbs := bytes_set (shut_bytes hb) h0 h1 i
  have hlen : ((shut b).set i v).length = b.length + 4 := by rw [List.length_set, hs]
  by_cases h : i < b.length
  · have e : (shut b).set i v = b.set i v ++ be 4 (crc b) := by
      unfold shut
      rw [List.set_append_left _ _ h]
    have hv' : v ≠ b[i] := by
      intro hh
      apply hv
      rw [hh]
      have h9 : (b ++ be 4 (crc b))[i]'(by rw [List.length_append]; omega) = b[i] := List.getElem_append_left h
      exact h9.symm
    rw [open_eq e hbs (be_length _ _) (by omega) (by omega), val_be 4 _ hc.1 (by simpa using hc.2)]
    have := crc_set hb h0 h1 h hv'
    congr 1
    exact beq_eq_false_iff_ne.2 (fun hh => this hh.symm)
  · have e : (shut b).set i v = b ++ (be 4 (crc b)).set (i - b.length) v := by
      unfold shut
      rw [List.set_append_right _ _ (by omega)]
    have hi4 : i - b.length < (be 4 (crc b)).length := by rw [be_length]; omega
    rw [open_eq e hbs (by rw [List.length_set, be_length]) (by omega) (by omega)]
    congr 1
    refine beq_eq_false_iff_ne.2 (fun hh => hv ?_)
    have hbt : Bytes ((be 4 (crc b)).set (i - b.length) v) := bytes_set (be_bytes _ _) h0 h1 _
    have h2 := be_val 4 _ hbt (by rw [List.length_set, be_length])
    rw [hh] at h2
    have h3 : ((be 4 (crc b)).set (i - b.length) v)[i - b.length]'(by rw [List.length_set]; exact hi4) = (be 4 (crc b))[i - b.length] := by
      simp only [← h2]
    rw [List.getElem_set_self] at h3
    rw [h3]
    have h9 : (b ++ be 4 (crc b))[i]'(by rw [List.length_append, be_length]; omega) = (be 4 (crc b))[i - b.length] := List.getElem_append_right (by omega)
    exact h9.symm
end Go.Proofs.Ytgeheedfmdlefaa.Pure
