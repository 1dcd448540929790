/- The sum as a plain function of the bytes. -/
import Derived.Test.YtgeheedfmdlefaaFrameSealedFBase
namespace Go.Proofs.Ytgeheedfmdlefaa.Pure
open Go.RowKit Go.Proofs.Ytgeheedfmdlefaa.PF Go.Proofs.YtgeheedfmdlefaaW.PrintWords Go.Proofs.YtgeheedfmdlefaaW.PrintLast Go.Proofs.YtgeheedfmdlefaaW.PrintMore
set_option linter.unusedVariables false

def step (r : Nat) : Nat := if r % 2 = 1 then (r / 2) ^^^ 3988292384 else r / 2
def it : Nat → Nat → Nat
  | 0, r => r
  | d + 1, r => it d (step r)
def byte (r c : Nat) : Nat := it 8 (r ^^^ c)
def reg : Nat → List Int → Nat
  | r, [] => r
  | r, c :: l => reg (byte r c.toNat) l
def crc (l : List Int) : Int := ((4294967295 ^^^ reg 4294967295 l : Nat) : Int)

theorem xor_lt {a b : Nat} (ha : a < 4294967296) (hb : b < 4294967296) : a ^^^ b < 4294967296 := Nat.xor_lt_two_pow (n := 32) ha hb
theorem step_lt {r : Nat} (h : r < 4294967296) : step r < 4294967296 := by
  unfold step
  split
  · exact xor_lt (by omega) (by omega)
  · omega
theorem it_lt : ∀ (d : Nat) {r : Nat}, r < 4294967296 → it d r < 4294967296
  | 0, _, h => h
  | d + 1, _, h => it_lt d (step_lt h)
theorem byte_lt {r c : Nat} (h : r < 4294967296) (hc : c < 4294967296) : byte r c < 4294967296 := it_lt 8 (xor_lt h hc)
theorem reg_lt : ∀ (l : List Int) {r : Nat}, Bytes l → r < 4294967296 → reg r l < 4294967296
  | [], _, _, h => h
  | c :: l, r, hb, h => reg_lt l hb.cons.2 (byte_lt h (by have := hb.cons.1; omega))
theorem reg_append : ∀ (l m : List Int) (r : Nat), reg r (l ++ m) = reg (reg r l) m
  | [], _, _ => rfl
  | _ :: l, m, _ => reg_append l m _
theorem crc_range {l : List Int} (h : Bytes l) : 0 ≤ crc l ∧ crc l < 4294967296 := by
  have := xor_lt (a := 4294967295) (by omega) (reg_lt l h (r := 4294967295) (by omega))
  unfold crc
  omega

theorem and_one {r : Nat} (h : r < 4294967296) : Go.bits .and .u32 (r : Int) 1 = ((r % 2 : Nat) : Int) := by
  have := u32_and_nat r 1 h (by omega)
  rw [nat_mask1] at this
  exact this
theorem xor_poly {r : Nat} (h : r < 4294967296) : Go.bits .xor .u32 (r : Int) 3988292384 = ((r ^^^ 3988292384 : Nat) : Int) := u32_xor_nat r 3988292384 h (by omega)
theorem xor_ones {r : Nat} (h : r < 4294967296) : Go.bits .xor .u32 4294967295 (r : Int) = ((4294967295 ^^^ r : Nat) : Int) := u32_xor_nat 4294967295 r (by omega) h
theorem xor_ones' {r : Nat} (h : r < 4294967296) : Go.bits .xor .u32 (r : Int) 4294967295 = ((4294967295 ^^^ r : Nat) : Int) := by
  rw [Nat.xor_comm]
  exact u32_xor_nat r 4294967295 h (by omega)
theorem xor_byte {r : Nat} (h : r < 4294967296) {c : Int} (h0 : 0 ≤ c) (h1 : c ≤ 255) : Go.bits .xor .u32 (r : Int) (c % 4294967296) = ((r ^^^ c.toNat : Nat) : Int) := by
  rw [show c % 4294967296 = ((c.toNat : Nat) : Int) from by omega]
  exact u32_xor_nat r c.toNat h (by omega)

theorem bit_loop (l : List Int) (n i : Int) (k : Nat) : ∀ (d : Nat), d ≤ 8 → ∀ (r : Nat), r < 4294967296 →
    frame_Sum.l1 (k + d + 1) (r : Int) l n i (8 - (d : Int)) = frame_Sum.l0 k (it d r : Nat) l n (wrap64 (i + 1)) := by
  intro d
  induction d with
  | zero =>
    intro _ r h
    rw [frame_Sum.l1, if_neg (by omega)]
    rfl
  | succ d ih =>
    intro hd r h
    have ih' := ih (by omega)
    rw [show k + (d + 1) + 1 = (k + d + 1) + 1 from by omega]
    generalize k + d + 1 = q at ih' ⊢
    rw [frame_Sum.l1, if_pos (by omega), and_one h, wrap_id (by omega) (by omega), show (8 - ((d + 1 : Nat) : Int) + 1) = 8 - (d : Int) from by omega]
    rw [show ((r : Int) / 2) = ((r / 2 : Nat) : Int) from by omega, xor_poly (by omega)]
    rw [it, step]
    by_cases hr : r % 2 = 1
    · rw [if_pos (by omega), if_pos hr]
      exact ih' _ (xor_lt (by omega) (by omega))
    · rw [if_neg (by omega), if_neg hr]
      exact ih' _ (by omega)
theorem bit8 (l : List Int) (n i : Int) (k : Nat) (r c : Nat) (hr : r < 4294967296) (hc : c < 4294967296) :
    frame_Sum.l1 (k + 8 + 1) ((r ^^^ c : Nat) : Int) l n i 0 = frame_Sum.l0 k (byte r c : Nat) l n (wrap64 (i + 1)) :=
  bit_loop l n i k 8 (by omega) (r ^^^ c) (xor_lt hr hc)
theorem rd_nat {l : List Int} {i : Nat} (h : i < l.length) : rd l (i : Int) = l[i] := by
  unfold rd
  rw [List.getD_eq_getElem?_getD, show ((i : Int)).toNat = i from by omega, List.getElem?_eq_getElem h, Option.getD_some]
theorem byte_loop (l : List Int) (hb : Bytes l) (hl : l.length < 9223372036854775807) (k : Nat) : ∀ (d i : Nat), i + d = l.length → ∀ (r : Nat), r < 4294967296 →
    frame_Sum.l0 (k + 10 * d + 1) (r : Int) l (l.length : Int) (i : Int) = some ((4294967295 ^^^ reg r (l.drop i) : Nat) : Int) := by
  intro d
  induction d with
  | zero =>
    intro i hi r h
    rw [frame_Sum.l0, if_neg (by omega), List.drop_of_length_le (by omega), xor_ones h]
    rfl
  | succ d ih =>
    intro i hi r h
    have hlt : i < l.length := by omega
    have hr := hb l[i] (List.getElem_mem _)
    rw [show k + 10 * (d + 1) + 1 = (((k + 10 * d + 1) + 8) + 1) + 1 from by omega]
    have ih' := ih (i + 1) (by omega) (byte r l[i].toNat) (byte_lt h (by omega))
    generalize k + 10 * d + 1 = q at ih' ⊢
    rw [frame_Sum.l0, if_pos (by omega), if_pos (by omega), if_pos (by omega), rd_nat hlt, xor_byte h hr.1 hr.2]
    have hb1 := bit8 l (l.length : Int) (i : Int) q r l[i].toNat h (by omega)
    refine hb1.trans ?_
    rw [wrap_id (by omega) (by omega), show ((i : Int) + 1) = ((i + 1 : Nat) : Int) from by omega]
    have e : reg r (l.drop i) = reg (byte r l[i].toNat) (l.drop (i + 1)) := by
      rw [List.drop_eq_getElem_cons hlt]
      rfl
    rw [e]
    exact ih'
theorem sum_eq {l : List Int} (hb : Bytes l) (hl : l.length < 9223372036854775807) {k : Nat} (hk : 10 * l.length + 1 ≤ k) : frame_Sum.f k l = some (crc l) := by
  unfold frame_Sum.f
  obtain ⟨q, rfl⟩ : ∃ q, k = q + 10 * l.length + 1 := ⟨k - (10 * l.length + 1), by omega⟩
  exact byte_loop l hb hl q l.length 0 (by omega) 4294967295 (by omega)

theorem u64_id {x : Int} (h0 : 0 ≤ x) (h1 : x < 18446744073709551616) : IntKind.u64.wrap x = x := wrapu_id h0 h1
/-- Bytes with their sum behind them. -/
def shut (l : List Int) : List Int := l ++ be 4 (crc l)
theorem sealed_eq {l : List Int} (hb : Bytes l) (hl : l.length < 140737488355320) {k : Nat} (hk : 10 * l.length + 9 ≤ k) : frame_sealed.f k l = some (shut l) := by
  unfold frame_sealed.f
  have hc := crc_range hb
  rw [sum_eq hb (by omega) (by omega), Option.bind_some, wrapu_id (by omega) (by omega), show (4 : Int) = ((4 : Nat) : Int) from rfl, put_eq hc.1 (by omega) (by omega) (by omega) (by omega)]
  rfl
end Go.Proofs.Ytgeheedfmdlefaa.Pure
