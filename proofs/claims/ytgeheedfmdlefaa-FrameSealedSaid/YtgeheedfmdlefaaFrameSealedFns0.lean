/- The functions that the law runs, each as a Lean function with its proof; written and laid together by a program for this claim. -/
import Derived.ArgAppend
import Derived.Below
import Derived.BigQuiet
import Derived.Deep.AppendLies
import Derived.Deep.CutBlock
import Derived.Deep.DeepCutAuto
import Derived.Deep.Draws
import Derived.Deep.LoopGhost
import Derived.Deep.OwnRows
import Derived.Deep.QuietTactic
import Derived.Deep.RegionHeld3
import Derived.KernelRfl
import Derived.Laws.BitsLemmas
import Derived.Laws.BytesArg
import Derived.Laws.IdiomCopy
import Derived.Laws.MakeOwn
import Derived.Laws.OwnMore
import Derived.Laws.Rows
import Derived.Laws.Slices
import Derived.Lib.AppendStr
import Derived.Lib.ConvBytes
import Derived.Maps.AppendAt
import Derived.OrdersHeld
import Derived.OwnWalk
import Derived.RowKit
import Derived.RowKit3
import Derived.Tactics
import Derived.Test.YtgeheedfmdlefaaProg
import Derived.WalkKit
import Derived.WideLaws
import Derived.Test.YtgeheedfmdlefaaFrameSealedConv
import Derived.Test.YtgeheedfmdlefaaFrameSealedWords0
section
namespace Go.Proofs.Ytgeheedfmdlefaa.PF
open Go.RowKit Go.Proofs.YtgeheedfmdlefaaW.PrintWords Go.Proofs.YtgeheedfmdlefaaW.PrintLast Go.Proofs.YtgeheedfmdlefaaW.PrintMore Go.Proofs.Ytgeheedfmdlefaa.Conv
attribute [local go_sem] max2_int min2_int max_two min_two max_three min_three max_four min_four   -- for this text's walks alone
set_option linter.unusedVariables false
set_option linter.unusedSimpArgs false

def errW : Option Int → Value
 | none => .nilIface
 | some c => .iface 0 (.int .i64 c)
theorem errW_none : errW none = .nilIface := rfl
theorem errW_some (c : Int) : errW (some c) = .iface 0 (.int .i64 c) := rfl

theorem info5 : (Try.prog.info? 5).map (fun i => (i.zero, i.size, i.bytes)) = some (some (.int .u8 0), 1, 1) := by kernel_rfl
-- the values' own types
/-! #### struct type 24 -/
structure S24 where
 f0 : Int
 f1 : Int
 f2 : Int
 f3 : Int
 f4 : Int
def z24 : S24 := ⟨(0 : Int), (0 : Int), (0 : Int), (0 : Int), (0 : Int)⟩
def k24 : Kd S24 := Kd.iso (Kd.pair (Kd.int .i64) (Kd.pair (Kd.int .i64) (Kd.pair (Kd.int .i64) (Kd.pair (Kd.int .u32) (Kd.int .i64))))) (fun x : S24 => (x.f0, x.f1, x.f2, x.f3, x.f4))
theorem k24_open {w : World} {x : S24} {cs : List Value} (h : k24.K w x cs) : cs = [.int .i64 x.f0, .int .i64 x.f1, .int .i64 x.f2, .int .u32 x.f3, .int .i64 x.f4] := by
 obtain ⟨_, _, rfl, rfl, ⟨_, _, rfl, rfl, ⟨_, _, rfl, rfl, ⟨_, _, rfl, rfl, rfl⟩⟩⟩⟩ := h
 exact rfl
theorem k24_openM {w : World} {base : Nat} {ok : Nat → Prop} {x : S24} {cs : List Value} (h : k24.M w base ok x cs) : cs = [.int .i64 x.f0, .int .i64 x.f1, .int .i64 x.f2, .int .u32 x.f3, .int .i64 x.f4] := by
 obtain ⟨_, _, rfl, rfl, ⟨_, _, rfl, rfl, ⟨_, _, rfl, rfl, ⟨_, _, rfl, rfl, rfl⟩⟩⟩⟩ := h
 exact rfl
theorem k24_mk (w : World) (x : S24)  : k24.K w x [.int .i64 x.f0, .int .i64 x.f1, .int .i64 x.f2, .int .u32 x.f3, .int .i64 x.f4] := ⟨[.int .i64 x.f0], [.int .i64 x.f1, .int .i64 x.f2, .int .u32 x.f3, .int .i64 x.f4], rfl, rfl, ⟨[.int .i64 x.f1], [.int .i64 x.f2, .int .u32 x.f3, .int .i64 x.f4], rfl, rfl, ⟨[.int .i64 x.f2], [.int .u32 x.f3, .int .i64 x.f4], rfl, rfl, ⟨[.int .u32 x.f3], [.int .i64 x.f4], rfl, rfl, rfl⟩⟩⟩⟩
theorem k24_mkM (w : World) (base : Nat) (ok : Nat → Prop) (x : S24)  : k24.M w base ok x [.int .i64 x.f0, .int .i64 x.f1, .int .i64 x.f2, .int .u32 x.f3, .int .i64 x.f4] := ⟨[.int .i64 x.f0], [.int .i64 x.f1, .int .i64 x.f2, .int .u32 x.f3, .int .i64 x.f4], rfl, rfl, ⟨[.int .i64 x.f1], [.int .i64 x.f2, .int .u32 x.f3, .int .i64 x.f4], rfl, rfl, ⟨[.int .i64 x.f2], [.int .u32 x.f3, .int .i64 x.f4], rfl, rfl, ⟨[.int .u32 x.f3], [.int .i64 x.f4], rfl, rfl, rfl⟩⟩⟩⟩
def rd_T24 (xs : List S24) (i : Int) : S24 := xs.getD i.toNat z24
theorem at_T24 {w : World} {A : Option Addr} {n : Nat} {xs : List S24} (h : Kd.C k24 w A n xs) (i : Int) (h0 : 0 ≤ i) (h1 : i < n) : ∃ ad , A = some ad ∧ w.cell? (ad.add (i.toNat * 5)) = some (.int .i64 (rd_T24 xs i).f0) ∧ w.cell? ⟨(ad.add (i.toNat * 5)).block, (ad.add (i.toNat * 5)).off + 1, none⟩ = some (.int .i64 (rd_T24 xs i).f1) ∧ w.cell? ⟨(ad.add (i.toNat * 5)).block, (ad.add (i.toNat * 5)).off + 2, none⟩ = some (.int .i64 (rd_T24 xs i).f2) ∧ w.cell? ⟨(ad.add (i.toNat * 5)).block, (ad.add (i.toNat * 5)).off + 3, none⟩ = some (.int .u32 (rd_T24 xs i).f3) ∧ w.cell? ⟨(ad.add (i.toNat * 5)).block, (ad.add (i.toNat * 5)).off + 4, none⟩ = some (.int .i64 (rd_T24 xs i).f4) := by
 obtain ⟨ad, c, e, _, hK, hc0⟩ := Kd.C_get h z24 i h0 h1
 have hc : ∀ j u, c[j]? = some u → w.cell? (ad.add (i.toNat * 5 + j)) = some u := hc0
 obtain rfl := k24_open hK
 exact ⟨ad, e, hc 0 _ rfl, by rw [← add_field _ _ 1 (by omega)]; exact hc 1 _ rfl, by rw [← add_field _ _ 2 (by omega)]; exact hc 2 _ rfl, by rw [← add_field _ _ 3 (by omega)]; exact hc 3 _ rfl, by rw [← add_field _ _ 4 (by omega)]; exact hc 4 _ rfl⟩

/-! #### struct type 36 -/
structure S36 where
 f0 : Int
 f1 : Int
 f2 : Int
 f3 : ByteArray
 f4 : Int
def z36 : S36 := ⟨(0 : Int), (0 : Int), (0 : Int), (⟨#[]⟩ : ByteArray), (0 : Int)⟩
def k36 : Kd S36 := Kd.iso (Kd.pair (Kd.int .i64) (Kd.pair (Kd.int .i64) (Kd.pair (Kd.int .i64) (Kd.pair Kd.string (Kd.int .i64))))) (fun x : S36 => (x.f0, x.f1, x.f2, x.f3, x.f4))
theorem k36_open {w : World} {x : S36} {cs : List Value} (h : k36.K w x cs) : cs = [.int .i64 x.f0, .int .i64 x.f1, .int .i64 x.f2, .string x.f3, .int .i64 x.f4] := by
 obtain ⟨_, _, rfl, rfl, ⟨_, _, rfl, rfl, ⟨_, _, rfl, rfl, ⟨_, _, rfl, rfl, rfl⟩⟩⟩⟩ := h
 exact rfl
theorem k36_openM {w : World} {base : Nat} {ok : Nat → Prop} {x : S36} {cs : List Value} (h : k36.M w base ok x cs) : cs = [.int .i64 x.f0, .int .i64 x.f1, .int .i64 x.f2, .string x.f3, .int .i64 x.f4] := by
 obtain ⟨_, _, rfl, rfl, ⟨_, _, rfl, rfl, ⟨_, _, rfl, rfl, ⟨_, _, rfl, rfl, rfl⟩⟩⟩⟩ := h
 exact rfl
theorem k36_mk (w : World) (x : S36)  : k36.K w x [.int .i64 x.f0, .int .i64 x.f1, .int .i64 x.f2, .string x.f3, .int .i64 x.f4] := ⟨[.int .i64 x.f0], [.int .i64 x.f1, .int .i64 x.f2, .string x.f3, .int .i64 x.f4], rfl, rfl, ⟨[.int .i64 x.f1], [.int .i64 x.f2, .string x.f3, .int .i64 x.f4], rfl, rfl, ⟨[.int .i64 x.f2], [.string x.f3, .int .i64 x.f4], rfl, rfl, ⟨[.string x.f3], [.int .i64 x.f4], rfl, rfl, rfl⟩⟩⟩⟩
theorem k36_mkM (w : World) (base : Nat) (ok : Nat → Prop) (x : S36)  : k36.M w base ok x [.int .i64 x.f0, .int .i64 x.f1, .int .i64 x.f2, .string x.f3, .int .i64 x.f4] := ⟨[.int .i64 x.f0], [.int .i64 x.f1, .int .i64 x.f2, .string x.f3, .int .i64 x.f4], rfl, rfl, ⟨[.int .i64 x.f1], [.int .i64 x.f2, .string x.f3, .int .i64 x.f4], rfl, rfl, ⟨[.int .i64 x.f2], [.string x.f3, .int .i64 x.f4], rfl, rfl, ⟨[.string x.f3], [.int .i64 x.f4], rfl, rfl, rfl⟩⟩⟩⟩
def rd_T36 (xs : List S36) (i : Int) : S36 := xs.getD i.toNat z36
theorem at_T36 {w : World} {A : Option Addr} {n : Nat} {xs : List S36} (h : Kd.C k36 w A n xs) (i : Int) (h0 : 0 ≤ i) (h1 : i < n) : ∃ ad , A = some ad ∧ w.cell? (ad.add (i.toNat * 5)) = some (.int .i64 (rd_T36 xs i).f0) ∧ w.cell? ⟨(ad.add (i.toNat * 5)).block, (ad.add (i.toNat * 5)).off + 1, none⟩ = some (.int .i64 (rd_T36 xs i).f1) ∧ w.cell? ⟨(ad.add (i.toNat * 5)).block, (ad.add (i.toNat * 5)).off + 2, none⟩ = some (.int .i64 (rd_T36 xs i).f2) ∧ w.cell? ⟨(ad.add (i.toNat * 5)).block, (ad.add (i.toNat * 5)).off + 3, none⟩ = some (.string (rd_T36 xs i).f3) ∧ w.cell? ⟨(ad.add (i.toNat * 5)).block, (ad.add (i.toNat * 5)).off + 4, none⟩ = some (.int .i64 (rd_T36 xs i).f4) := by
 obtain ⟨ad, c, e, _, hK, hc0⟩ := Kd.C_get h z36 i h0 h1
 have hc : ∀ j u, c[j]? = some u → w.cell? (ad.add (i.toNat * 5 + j)) = some u := hc0
 obtain rfl := k36_open hK
 exact ⟨ad, e, hc 0 _ rfl, by rw [← add_field _ _ 1 (by omega)]; exact hc 1 _ rfl, by rw [← add_field _ _ 2 (by omega)]; exact hc 2 _ rfl, by rw [← add_field _ _ 3 (by omega)]; exact hc 3 _ rfl, by rw [← add_field _ _ 4 (by omega)]; exact hc 4 _ rfl⟩

end Go.Proofs.Ytgeheedfmdlefaa.PF
end

section
namespace Go.Proofs.Ytgeheedfmdlefaa.PF
open Go.RowKit Go.Proofs.YtgeheedfmdlefaaW.PrintWords Go.Proofs.YtgeheedfmdlefaaW.PrintLast Go.Proofs.YtgeheedfmdlefaaW.PrintMore Go.Proofs.Ytgeheedfmdlefaa.Conv
attribute [local go_sem] max2_int min2_int max_two min_two max_three min_three max_four min_four   -- for this text's walks alone
set_option linter.unusedVariables false
set_option linter.unusedSimpArgs false

theorem eqA24 (d : Nat) (w : World) (x0 y0 : Int) (x1 y1 : Int) (x2 y2 : Int) (x3 y3 : Int) (x4 y4 : Int) :
  (Op.equalIn (d + 2) 24 (.agg #[.int .i64 x0, .int .i64 x1, .int .i64 x2, .int .u32 x3, .int .i64 x4]) (.agg #[.int .i64 y0, .int .i64 y1, .int .i64 y2, .int .u32 y3, .int .i64 y4])).run Try.prog w = .ok (x0 == y0 && (x1 == y1 && (x2 == y2 && (x3 == y3 && (x4 == y4))))) w := by
 refine eqA_of Try.underlying24 (by kernel_rfl) ?_
 refine eqf_cons (by rfl) (by go_simp; rfl) (by go_simp; rfl) (by go_simp) ?_
 refine eqf_cons (by rfl) (by go_simp; rfl) (by go_simp; rfl) (by go_simp) ?_
 refine eqf_cons (by rfl) (by go_simp; rfl) (by go_simp; rfl) (by go_simp) ?_
 refine eqf_cons (by rfl) (by go_simp; rfl) (by go_simp; rfl) (by go_simp) ?_
 exact eqf_last (by rfl) (by go_simp; rfl) (by go_simp; rfl) (by go_simp)
end Go.Proofs.Ytgeheedfmdlefaa.PF
end

section
namespace Go.Proofs.Ytgeheedfmdlefaa.PF
open Go.RowKit Go.Proofs.YtgeheedfmdlefaaW.PrintWords Go.Proofs.YtgeheedfmdlefaaW.PrintLast Go.Proofs.YtgeheedfmdlefaaW.PrintMore Go.Proofs.Ytgeheedfmdlefaa.Conv
attribute [local go_sem] max2_int min2_int max_two min_two max_three min_three max_four min_four   -- for this text's walks alone
set_option linter.unusedVariables false
set_option linter.unusedSimpArgs false

theorem eqA36 (d : Nat) (w : World) (x0 y0 : Int) (x1 y1 : Int) (x2 y2 : Int) (x3 y3 : ByteArray) (x4 y4 : Int) :
  (Op.equalIn (d + 2) 36 (.agg #[.int .i64 x0, .int .i64 x1, .int .i64 x2, .string x3, .int .i64 x4]) (.agg #[.int .i64 y0, .int .i64 y1, .int .i64 y2, .string y3, .int .i64 y4])).run Try.prog w = .ok (x0 == y0 && (x1 == y1 && (x2 == y2 && (x3.toList == y3.toList && (x4 == y4))))) w := by
 refine eqA_of Try.underlying36 (by kernel_rfl) ?_
 refine eqf_cons (by rfl) (by go_simp; rfl) (by go_simp; rfl) (by go_simp) ?_
 refine eqf_cons (by rfl) (by go_simp; rfl) (by go_simp; rfl) (by go_simp) ?_
 refine eqf_cons (by rfl) (by go_simp; rfl) (by go_simp; rfl) (by go_simp) ?_
 refine eqf_cons (by rfl) (by go_simp; rfl) (by go_simp; rfl) (by go_simp) ?_
 exact eqf_last (by rfl) (by go_simp; rfl) (by go_simp; rfl) (by go_simp)
end Go.Proofs.Ytgeheedfmdlefaa.PF
end

section
namespace Go.Proofs.Ytgeheedfmdlefaa.PF
open Go.RowKit Go.Proofs.YtgeheedfmdlefaaW.PrintWords Go.Proofs.YtgeheedfmdlefaaW.PrintLast Go.Proofs.YtgeheedfmdlefaaW.PrintMore Go.Proofs.Ytgeheedfmdlefaa.Conv
attribute [local go_sem] max2_int min2_int max_two min_two max_three min_three max_four min_four   -- for this text's walks alone
set_option linter.unusedVariables false
set_option linter.unusedSimpArgs false

/-! ### frame_within: function 38 -/
def frame_within.f (a0 : Int) (a1 : Int) (a2 : Int) : Option (Bool) := if a0 ≥ a1 then (some (decide (a0 ≤ a2))) else (some false)
set_option maxHeartbeats 8000000 in
set_option maxRecDepth 100000 in
theorem frame_within.calls (a0 : Int) (a1 : Int) (a2 : Int) (r : Bool) (w : World) (h : frame_within.f a0 a1 a2 = some r) :
  Calls Try.prog 38 #[.int .i64 a0, .int .i64 a1, .int .i64 a2] w fun e w' => e = .returned (.bool r) ∧ Drawn0 w w' := by
 have H : (if a0 ≥ a1 then (some (decide (a0 ≤ a2))) else (some false)) = some r := h
 clear h
 by_cases c4 : a0 ≥ a1
 ·rw [if_pos c4] at H
  have c4b0 : decide (a1 ≤ a0) = true := decide_eq_true c4
  clear c4
  obtain rfl := Option.some.inj H
  go_enter Try.func38, Try.ntmps38
  go_wp2
  go_ret
  exact ⟨by first | rfl | (simp; done) | (simp [*]; done), by repeat (first | exact Drawn0.refl _ | apply Drawn0.step)⟩
 ·rw [if_neg c4] at H
  have c4b0 : decide (a1 ≤ a0) = false := decide_eq_false c4
  clear c4
  obtain rfl := Option.some.inj H
  go_enter Try.func38, Try.ntmps38
  go_wp2
  go_ret
  exact ⟨by first | rfl | (simp; done) | (simp [*]; done), by repeat (first | exact Drawn0.refl _ | apply Drawn0.step)⟩

/-! ### frame_rightControl: function 27 -/
def frame_rightControl.f (a0_0 : Int) (a0_1 : Int) (a0_2 : Int) (a0_3 : Int) (a0_4 : Int) : Option (Bool) := if a0_0 = 1 then ((frame_within.f a0_1 0 7).bind fun t102 => (if t102 = true then ((frame_within.f a0_2 0 1125899906842624).bind fun t103 => (if t103 = true then (if a0_3 < 64 then ((frame_within.f a0_4 0 1048576).bind fun t104 => (some t104)) else (some false)) else (some false))) else (some false))) else (if a0_0 = 2 then ((frame_within.f a0_1 0 7).bind fun t105 => (if t105 = true then ((frame_within.f a0_2 0 1125899906842624).bind fun t106 => (if t106 = true then (if a0_3 < 64 then ((frame_within.f a0_4 0 1048576).bind fun t107 => (some t107)) else (some false)) else (some false))) else (some false))) else (some false))
set_option maxHeartbeats 8000000 in
set_option maxRecDepth 100000 in
theorem frame_rightControl.calls (a0_0 : Int) (a0_1 : Int) (a0_2 : Int) (a0_3 : Int) (a0_4 : Int) (r : Bool) (w : World) (h : frame_rightControl.f a0_0 a0_1 a0_2 a0_3 a0_4 = some r) :
  Calls Try.prog 27 #[.agg #[.int .i64 a0_0, .int .i64 a0_1, .int .i64 a0_2, .int .u32 a0_3, .int .i64 a0_4]] w fun e w' => e = .returned (.bool r) ∧ Below w.heap.size w w' := by
 have hu24 := Try.underlying24
 have HB := Azz.mk (Below.refl w.heap.size w)
 have H : (if a0_0 = 1 then ((frame_within.f a0_1 0 7).bind fun t102 => (if t102 = true then ((frame_within.f a0_2 0 1125899906842624).bind fun t103 => (if t103 = true then (if a0_3 < 64 then ((frame_within.f a0_4 0 1048576).bind fun t104 => (some t104)) else (some false)) else (some false))) else (some false))) else (if a0_0 = 2 then ((frame_within.f a0_1 0 7).bind fun t105 => (if t105 = true then ((frame_within.f a0_2 0 1125899906842624).bind fun t106 => (if t106 = true then (if a0_3 < 64 then ((frame_within.f a0_4 0 1048576).bind fun t107 => (some t107)) else (some false)) else (some false))) else (some false))) else (some false))) = some r := h
 clear h
 by_cases c2 : a0_0 = 1
 ·rw [if_pos c2] at H
  have c2b0 : (a0_0 == 1) = true := beq_iff_eq.mpr c2
  have c2b1 : (a0_0 != 1) = false := bne_eq_false_iff_eq.mpr c2
  clear c2
  replace H := Option.bind_eq_some_iff.mp H
  obtain ⟨t102, A30, H⟩ := H
  replace H : (if t102 = true then ((frame_within.f a0_2 0 1125899906842624).bind fun t103 => (if t103 = true then (if a0_3 < 64 then ((frame_within.f a0_4 0 1048576).bind fun t104 => (some t104)) else (some false)) else (some false))) else (some false)) = some r := H
  have A3 := Azz.mk A30
  clear A30
  by_cases c4 : t102 = true
  ·subst c4
   have H1 : ((frame_within.f a0_2 0 1125899906842624).bind fun t103 => (if t103 = true then (if a0_3 < 64 then ((frame_within.f a0_4 0 1048576).bind fun t104 => (some t104)) else (some false)) else (some false))) = some r := by rw [if_pos rfl] at H; exact H
   clear H
   have H := H1
   clear H1
   replace H := Option.bind_eq_some_iff.mp H
   obtain ⟨t103, A50, H⟩ := H
   replace H : (if t103 = true then (if a0_3 < 64 then ((frame_within.f a0_4 0 1048576).bind fun t104 => (some t104)) else (some false)) else (some false)) = some r := H
   have A5 := Azz.mk A50
   clear A50
   by_cases c6 : t103 = true
   ·subst c6
    have H1 : (if a0_3 < 64 then ((frame_within.f a0_4 0 1048576).bind fun t104 => (some t104)) else (some false)) = some r := by rw [if_pos rfl] at H; exact H
    clear H
    have H := H1
    clear H1
    by_cases c7 : a0_3 < 64
    ·rw [if_pos c7] at H
     have c7b0 : decide (a0_3 < 64) = true := decide_eq_true c7
     clear c7
     replace H := Option.bind_eq_some_iff.mp H
     obtain ⟨t104, A80, H⟩ := H
     replace H : (some t104) = some r := H
     have A8 := Azz.mk A80
     clear A80
     obtain rfl := Option.some.inj H
     go_enter Try.func27, Try.ntmps27
     go_wp2_with (first | ((with_reducible refine gate_dst (N := 1) rfl ?_); refine box_event ?hg (N := 1) ?hd (cs := #[.int .i64 a0_0, .int .i64 a0_1, .int .i64 a0_2, .int .u32 a0_3, .int .i64 a0_4]) (t := 24) ?hr ?_; (case hd => rfl); (case hg => rfl); (case hr => first | (go_simp; done) | (go_simp; rfl)); intro gb101 hg w9 hbox hb; have n0_ := Azz.mk (below_step (by repeat (first | (with_reducible first | exact HB.out | apply bal | apply pbN | apply bd1) | exact HB.out)) hb); have n1_ := Azz.mk (hbox); have n2_ := Azz.mk ((by rw [hg]; exact (below_size (by repeat (first | (with_reducible first | exact HB.out | apply bal | apply pbN | apply bd1) | exact HB.out))) : w.heap.size ≤ gb101)); have n3_ := Azz.mk ((by rw [hg]; exact (below_size (by repeat (first | (with_reducible first | exact HB.out | apply bal | apply pbN | apply bd1) | exact HB.out))) : w.heap.size ≤ gb101)); clear HB; have HB := n0_; have BK101 := n1_; have GW101 := n2_; have GE101 := n3_; clear n0_ n1_ n2_ n3_; clear hb hbox hg; have hcz10_0 : World.cell? _ ⟨gb101, 0, none⟩ = some (.int .i64 a0_0) := (kcl BK101.out 0).trans rfl; have hcz10_1 : World.cell? _ ⟨gb101, 1, none⟩ = some (.int .i64 a0_1) := (kcl BK101.out 1).trans rfl; have hcz10_2 : World.cell? _ ⟨gb101, 2, none⟩ = some (.int .i64 a0_2) := (kcl BK101.out 2).trans rfl; have hcz10_3 : World.cell? _ ⟨gb101, 3, none⟩ = some (.int .u32 a0_3) := (kcl BK101.out 3).trans rfl; have hcz10_4 : World.cell? _ ⟨gb101, 4, none⟩ = some (.int .i64 a0_4) := (kcl BK101.out 4).trans rfl; have hfz10_0 := kfz BK101.out 0; have hfz10_1 := kfz BK101.out 1; have hfz10_2 := kfz BK101.out 2; have hfz10_3 := kfz BK101.out 3; have hfz10_4 := kfz BK101.out 4) | (go_at_call 38; (with_reducible refine (frame_within.calls a0_1 0 7 true _ A3.out).mono ?_); rintro e w' ⟨rfl, ⟨nd, rfl⟩⟩) | (go_at_call 38; (with_reducible refine (frame_within.calls a0_2 0 1125899906842624 true _ A5.out).mono ?_); rintro e w' ⟨rfl, ⟨nd, rfl⟩⟩) | (go_at_call 38; (with_reducible refine (frame_within.calls a0_4 0 1048576 t104 _ A8.out).mono ?_); rintro e w' ⟨rfl, ⟨nd, rfl⟩⟩))
     go_ret
     exact ⟨by first | rfl | (simp [errW_none, errW_some] <;> rfl) | (simp [*, errW_none, errW_some] <;> rfl), by repeat (first | (with_reducible first | exact HB.out | apply bal | apply pbN | apply bd1 | refine bst ?_ GE101.out) | exact HB.out)⟩
    ·rw [if_neg c7] at H
     have c7b0 : decide (a0_3 < 64) = false := decide_eq_false c7
     clear c7
     obtain rfl := Option.some.inj H
     go_enter Try.func27, Try.ntmps27
     go_wp2_with (first | ((with_reducible refine gate_dst (N := 1) rfl ?_); refine box_event ?hg (N := 1) ?hd (cs := #[.int .i64 a0_0, .int .i64 a0_1, .int .i64 a0_2, .int .u32 a0_3, .int .i64 a0_4]) (t := 24) ?hr ?_; (case hd => rfl); (case hg => rfl); (case hr => first | (go_simp; done) | (go_simp; rfl)); intro gb101 hg w11 hbox hb; have n0_ := Azz.mk (below_step (by repeat (first | (with_reducible first | exact HB.out | apply bal | apply pbN | apply bd1) | exact HB.out)) hb); have n1_ := Azz.mk (hbox); have n2_ := Azz.mk ((by rw [hg]; exact (below_size (by repeat (first | (with_reducible first | exact HB.out | apply bal | apply pbN | apply bd1) | exact HB.out))) : w.heap.size ≤ gb101)); have n3_ := Azz.mk ((by rw [hg]; exact (below_size (by repeat (first | (with_reducible first | exact HB.out | apply bal | apply pbN | apply bd1) | exact HB.out))) : w.heap.size ≤ gb101)); clear HB; have HB := n0_; have BK101 := n1_; have GW101 := n2_; have GE101 := n3_; clear n0_ n1_ n2_ n3_; clear hb hbox hg; have hcz12_0 : World.cell? _ ⟨gb101, 0, none⟩ = some (.int .i64 a0_0) := (kcl BK101.out 0).trans rfl; have hcz12_1 : World.cell? _ ⟨gb101, 1, none⟩ = some (.int .i64 a0_1) := (kcl BK101.out 1).trans rfl; have hcz12_2 : World.cell? _ ⟨gb101, 2, none⟩ = some (.int .i64 a0_2) := (kcl BK101.out 2).trans rfl; have hcz12_3 : World.cell? _ ⟨gb101, 3, none⟩ = some (.int .u32 a0_3) := (kcl BK101.out 3).trans rfl; have hcz12_4 : World.cell? _ ⟨gb101, 4, none⟩ = some (.int .i64 a0_4) := (kcl BK101.out 4).trans rfl; have hfz12_0 := kfz BK101.out 0; have hfz12_1 := kfz BK101.out 1; have hfz12_2 := kfz BK101.out 2; have hfz12_3 := kfz BK101.out 3; have hfz12_4 := kfz BK101.out 4) | (go_at_call 38; (with_reducible refine (frame_within.calls a0_1 0 7 true _ A3.out).mono ?_); rintro e w' ⟨rfl, ⟨nd, rfl⟩⟩) | (go_at_call 38; (with_reducible refine (frame_within.calls a0_2 0 1125899906842624 true _ A5.out).mono ?_); rintro e w' ⟨rfl, ⟨nd, rfl⟩⟩))
     go_ret
     exact ⟨by first | rfl | (simp [errW_none, errW_some] <;> rfl) | (simp [*, errW_none, errW_some] <;> rfl), by repeat (first | (with_reducible first | exact HB.out | apply bal | apply pbN | apply bd1 | refine bst ?_ GE101.out) | exact HB.out)⟩
   ·replace c6 := Bool.eq_false_iff.mpr c6
    subst c6
    have H1 : (some false) = some r := by rw [if_neg (show ¬ (false = true) by decide)] at H; exact H
    clear H
    have H := H1
    clear H1
    obtain rfl := Option.some.inj H
    go_enter Try.func27, Try.ntmps27
    go_wp2_with (first | ((with_reducible refine gate_dst (N := 1) rfl ?_); refine box_event ?hg (N := 1) ?hd (cs := #[.int .i64 a0_0, .int .i64 a0_1, .int .i64 a0_2, .int .u32 a0_3, .int .i64 a0_4]) (t := 24) ?hr ?_; (case hd => rfl); (case hg => rfl); (case hr => first | (go_simp; done) | (go_simp; rfl)); intro gb101 hg w13 hbox hb; have n0_ := Azz.mk (below_step (by repeat (first | (with_reducible first | exact HB.out | apply bal | apply pbN | apply bd1) | exact HB.out)) hb); have n1_ := Azz.mk (hbox); have n2_ := Azz.mk ((by rw [hg]; exact (below_size (by repeat (first | (with_reducible first | exact HB.out | apply bal | apply pbN | apply bd1) | exact HB.out))) : w.heap.size ≤ gb101)); have n3_ := Azz.mk ((by rw [hg]; exact (below_size (by repeat (first | (with_reducible first | exact HB.out | apply bal | apply pbN | apply bd1) | exact HB.out))) : w.heap.size ≤ gb101)); clear HB; have HB := n0_; have BK101 := n1_; have GW101 := n2_; have GE101 := n3_; clear n0_ n1_ n2_ n3_; clear hb hbox hg; have hcz14_0 : World.cell? _ ⟨gb101, 0, none⟩ = some (.int .i64 a0_0) := (kcl BK101.out 0).trans rfl; have hcz14_1 : World.cell? _ ⟨gb101, 1, none⟩ = some (.int .i64 a0_1) := (kcl BK101.out 1).trans rfl; have hcz14_2 : World.cell? _ ⟨gb101, 2, none⟩ = some (.int .i64 a0_2) := (kcl BK101.out 2).trans rfl; have hcz14_3 : World.cell? _ ⟨gb101, 3, none⟩ = some (.int .u32 a0_3) := (kcl BK101.out 3).trans rfl; have hcz14_4 : World.cell? _ ⟨gb101, 4, none⟩ = some (.int .i64 a0_4) := (kcl BK101.out 4).trans rfl; have hfz14_0 := kfz BK101.out 0; have hfz14_1 := kfz BK101.out 1; have hfz14_2 := kfz BK101.out 2; have hfz14_3 := kfz BK101.out 3; have hfz14_4 := kfz BK101.out 4) | (go_at_call 38; (with_reducible refine (frame_within.calls a0_1 0 7 true _ A3.out).mono ?_); rintro e w' ⟨rfl, ⟨nd, rfl⟩⟩) | (go_at_call 38; (with_reducible refine (frame_within.calls a0_2 0 1125899906842624 false _ A5.out).mono ?_); rintro e w' ⟨rfl, ⟨nd, rfl⟩⟩))
    go_ret
    exact ⟨by first | rfl | (simp [errW_none, errW_some] <;> rfl) | (simp [*, errW_none, errW_some] <;> rfl), by repeat (first | (with_reducible first | exact HB.out | apply bal | apply pbN | apply bd1 | refine bst ?_ GE101.out) | exact HB.out)⟩
  ·replace c4 := Bool.eq_false_iff.mpr c4
   subst c4
   have H1 : (some false) = some r := by rw [if_neg (show ¬ (false = true) by decide)] at H; exact H
   clear H
   have H := H1
   clear H1
   obtain rfl := Option.some.inj H
   go_enter Try.func27, Try.ntmps27
   go_wp2_with (first | ((with_reducible refine gate_dst (N := 1) rfl ?_); refine box_event ?hg (N := 1) ?hd (cs := #[.int .i64 a0_0, .int .i64 a0_1, .int .i64 a0_2, .int .u32 a0_3, .int .i64 a0_4]) (t := 24) ?hr ?_; (case hd => rfl); (case hg => rfl); (case hr => first | (go_simp; done) | (go_simp; rfl)); intro gb101 hg w15 hbox hb; have n0_ := Azz.mk (below_step (by repeat (first | (with_reducible first | exact HB.out | apply bal | apply pbN | apply bd1) | exact HB.out)) hb); have n1_ := Azz.mk (hbox); have n2_ := Azz.mk ((by rw [hg]; exact (below_size (by repeat (first | (with_reducible first | exact HB.out | apply bal | apply pbN | apply bd1) | exact HB.out))) : w.heap.size ≤ gb101)); have n3_ := Azz.mk ((by rw [hg]; exact (below_size (by repeat (first | (with_reducible first | exact HB.out | apply bal | apply pbN | apply bd1) | exact HB.out))) : w.heap.size ≤ gb101)); clear HB; have HB := n0_; have BK101 := n1_; have GW101 := n2_; have GE101 := n3_; clear n0_ n1_ n2_ n3_; clear hb hbox hg; have hcz16_0 : World.cell? _ ⟨gb101, 0, none⟩ = some (.int .i64 a0_0) := (kcl BK101.out 0).trans rfl; have hcz16_1 : World.cell? _ ⟨gb101, 1, none⟩ = some (.int .i64 a0_1) := (kcl BK101.out 1).trans rfl; have hcz16_2 : World.cell? _ ⟨gb101, 2, none⟩ = some (.int .i64 a0_2) := (kcl BK101.out 2).trans rfl; have hcz16_3 : World.cell? _ ⟨gb101, 3, none⟩ = some (.int .u32 a0_3) := (kcl BK101.out 3).trans rfl; have hcz16_4 : World.cell? _ ⟨gb101, 4, none⟩ = some (.int .i64 a0_4) := (kcl BK101.out 4).trans rfl; have hfz16_0 := kfz BK101.out 0; have hfz16_1 := kfz BK101.out 1; have hfz16_2 := kfz BK101.out 2; have hfz16_3 := kfz BK101.out 3; have hfz16_4 := kfz BK101.out 4) | (go_at_call 38; (with_reducible refine (frame_within.calls a0_1 0 7 false _ A3.out).mono ?_); rintro e w' ⟨rfl, ⟨nd, rfl⟩⟩))
   go_ret
   exact ⟨by first | rfl | (simp [errW_none, errW_some] <;> rfl) | (simp [*, errW_none, errW_some] <;> rfl), by repeat (first | (with_reducible first | exact HB.out | apply bal | apply pbN | apply bd1 | refine bst ?_ GE101.out) | exact HB.out)⟩
 ·rw [if_neg c2] at H
  have c2b0 : (a0_0 == 1) = false := beq_eq_false_iff_ne.mpr c2
  have c2b1 : (a0_0 != 1) = true := bne_iff_ne.mpr c2
  by_cases c17 : a0_0 = 2
  ·rw [if_pos c17] at H
   have c17b0 : (a0_0 == 2) = true := beq_iff_eq.mpr c17
   have c17b1 : (a0_0 != 2) = false := bne_eq_false_iff_eq.mpr c17
   clear c17
   replace H := Option.bind_eq_some_iff.mp H
   obtain ⟨t105, A180, H⟩ := H
   replace H : (if t105 = true then ((frame_within.f a0_2 0 1125899906842624).bind fun t106 => (if t106 = true then (if a0_3 < 64 then ((frame_within.f a0_4 0 1048576).bind fun t107 => (some t107)) else (some false)) else (some false))) else (some false)) = some r := H
   have A18 := Azz.mk A180
   clear A180
   by_cases c19 : t105 = true
   ·subst c19
    have H1 : ((frame_within.f a0_2 0 1125899906842624).bind fun t106 => (if t106 = true then (if a0_3 < 64 then ((frame_within.f a0_4 0 1048576).bind fun t107 => (some t107)) else (some false)) else (some false))) = some r := by rw [if_pos rfl] at H; exact H
    clear H
    have H := H1
    clear H1
    replace H := Option.bind_eq_some_iff.mp H
    obtain ⟨t106, A200, H⟩ := H
    replace H : (if t106 = true then (if a0_3 < 64 then ((frame_within.f a0_4 0 1048576).bind fun t107 => (some t107)) else (some false)) else (some false)) = some r := H
    have A20 := Azz.mk A200
    clear A200
    by_cases c21 : t106 = true
    ·subst c21
     have H1 : (if a0_3 < 64 then ((frame_within.f a0_4 0 1048576).bind fun t107 => (some t107)) else (some false)) = some r := by rw [if_pos rfl] at H; exact H
     clear H
     have H := H1
     clear H1
     by_cases c22 : a0_3 < 64
     ·rw [if_pos c22] at H
      have c22b0 : decide (a0_3 < 64) = true := decide_eq_true c22
      clear c22
      replace H := Option.bind_eq_some_iff.mp H
      obtain ⟨t107, A230, H⟩ := H
      replace H : (some t107) = some r := H
      have A23 := Azz.mk A230
      clear A230
      obtain rfl := Option.some.inj H
      go_enter Try.func27, Try.ntmps27
      go_wp2_with (first | ((with_reducible refine gate_dst (N := 1) rfl ?_); refine box_event ?hg (N := 1) ?hd (cs := #[.int .i64 a0_0, .int .i64 a0_1, .int .i64 a0_2, .int .u32 a0_3, .int .i64 a0_4]) (t := 24) ?hr ?_; (case hd => rfl); (case hg => rfl); (case hr => first | (go_simp; done) | (go_simp; rfl)); intro gb101 hg w24 hbox hb; have n0_ := Azz.mk (below_step (by repeat (first | (with_reducible first | exact HB.out | apply bal | apply pbN | apply bd1) | exact HB.out)) hb); have n1_ := Azz.mk (hbox); have n2_ := Azz.mk ((by rw [hg]; exact (below_size (by repeat (first | (with_reducible first | exact HB.out | apply bal | apply pbN | apply bd1) | exact HB.out))) : w.heap.size ≤ gb101)); have n3_ := Azz.mk ((by rw [hg]; exact (below_size (by repeat (first | (with_reducible first | exact HB.out | apply bal | apply pbN | apply bd1) | exact HB.out))) : w.heap.size ≤ gb101)); clear HB; have HB := n0_; have BK101 := n1_; have GW101 := n2_; have GE101 := n3_; clear n0_ n1_ n2_ n3_; clear hb hbox hg; have hcz25_0 : World.cell? _ ⟨gb101, 0, none⟩ = some (.int .i64 a0_0) := (kcl BK101.out 0).trans rfl; have hcz25_1 : World.cell? _ ⟨gb101, 1, none⟩ = some (.int .i64 a0_1) := (kcl BK101.out 1).trans rfl; have hcz25_2 : World.cell? _ ⟨gb101, 2, none⟩ = some (.int .i64 a0_2) := (kcl BK101.out 2).trans rfl; have hcz25_3 : World.cell? _ ⟨gb101, 3, none⟩ = some (.int .u32 a0_3) := (kcl BK101.out 3).trans rfl; have hcz25_4 : World.cell? _ ⟨gb101, 4, none⟩ = some (.int .i64 a0_4) := (kcl BK101.out 4).trans rfl; have hfz25_0 := kfz BK101.out 0; have hfz25_1 := kfz BK101.out 1; have hfz25_2 := kfz BK101.out 2; have hfz25_3 := kfz BK101.out 3; have hfz25_4 := kfz BK101.out 4) | (go_at_call 38; (with_reducible refine (frame_within.calls a0_1 0 7 true _ A18.out).mono ?_); rintro e w' ⟨rfl, ⟨nd, rfl⟩⟩) | (go_at_call 38; (with_reducible refine (frame_within.calls a0_2 0 1125899906842624 true _ A20.out).mono ?_); rintro e w' ⟨rfl, ⟨nd, rfl⟩⟩) | (go_at_call 38; (with_reducible refine (frame_within.calls a0_4 0 1048576 t107 _ A23.out).mono ?_); rintro e w' ⟨rfl, ⟨nd, rfl⟩⟩))
      go_ret
      exact ⟨by first | rfl | (simp [errW_none, errW_some] <;> rfl) | (simp [*, errW_none, errW_some] <;> rfl), by repeat (first | (with_reducible first | exact HB.out | apply bal | apply pbN | apply bd1 | refine bst ?_ GE101.out) | exact HB.out)⟩
     ·rw [if_neg c22] at H
      have c22b0 : decide (a0_3 < 64) = false := decide_eq_false c22
      clear c22
      obtain rfl := Option.some.inj H
      go_enter Try.func27, Try.ntmps27
      go_wp2_with (first | ((with_reducible refine gate_dst (N := 1) rfl ?_); refine box_event ?hg (N := 1) ?hd (cs := #[.int .i64 a0_0, .int .i64 a0_1, .int .i64 a0_2, .int .u32 a0_3, .int .i64 a0_4]) (t := 24) ?hr ?_; (case hd => rfl); (case hg => rfl); (case hr => first | (go_simp; done) | (go_simp; rfl)); intro gb101 hg w26 hbox hb; have n0_ := Azz.mk (below_step (by repeat (first | (with_reducible first | exact HB.out | apply bal | apply pbN | apply bd1) | exact HB.out)) hb); have n1_ := Azz.mk (hbox); have n2_ := Azz.mk ((by rw [hg]; exact (below_size (by repeat (first | (with_reducible first | exact HB.out | apply bal | apply pbN | apply bd1) | exact HB.out))) : w.heap.size ≤ gb101)); have n3_ := Azz.mk ((by rw [hg]; exact (below_size (by repeat (first | (with_reducible first | exact HB.out | apply bal | apply pbN | apply bd1) | exact HB.out))) : w.heap.size ≤ gb101)); clear HB; have HB := n0_; have BK101 := n1_; have GW101 := n2_; have GE101 := n3_; clear n0_ n1_ n2_ n3_; clear hb hbox hg; have hcz27_0 : World.cell? _ ⟨gb101, 0, none⟩ = some (.int .i64 a0_0) := (kcl BK101.out 0).trans rfl; have hcz27_1 : World.cell? _ ⟨gb101, 1, none⟩ = some (.int .i64 a0_1) := (kcl BK101.out 1).trans rfl; have hcz27_2 : World.cell? _ ⟨gb101, 2, none⟩ = some (.int .i64 a0_2) := (kcl BK101.out 2).trans rfl; have hcz27_3 : World.cell? _ ⟨gb101, 3, none⟩ = some (.int .u32 a0_3) := (kcl BK101.out 3).trans rfl; have hcz27_4 : World.cell? _ ⟨gb101, 4, none⟩ = some (.int .i64 a0_4) := (kcl BK101.out 4).trans rfl; have hfz27_0 := kfz BK101.out 0; have hfz27_1 := kfz BK101.out 1; have hfz27_2 := kfz BK101.out 2; have hfz27_3 := kfz BK101.out 3; have hfz27_4 := kfz BK101.out 4) | (go_at_call 38; (with_reducible refine (frame_within.calls a0_1 0 7 true _ A18.out).mono ?_); rintro e w' ⟨rfl, ⟨nd, rfl⟩⟩) | (go_at_call 38; (with_reducible refine (frame_within.calls a0_2 0 1125899906842624 true _ A20.out).mono ?_); rintro e w' ⟨rfl, ⟨nd, rfl⟩⟩))
      go_ret
      exact ⟨by first | rfl | (simp [errW_none, errW_some] <;> rfl) | (simp [*, errW_none, errW_some] <;> rfl), by repeat (first | (with_reducible first | exact HB.out | apply bal | apply pbN | apply bd1 | refine bst ?_ GE101.out) | exact HB.out)⟩
    ·replace c21 := Bool.eq_false_iff.mpr c21
     subst c21
     have H1 : (some false) = some r := by rw [if_neg (show ¬ (false = true) by decide)] at H; exact H
     clear H
     have H := H1
     clear H1
     obtain rfl := Option.some.inj H
     go_enter Try.func27, Try.ntmps27
     go_wp2_with (first | ((with_reducible refine gate_dst (N := 1) rfl ?_); refine box_event ?hg (N := 1) ?hd (cs := #[.int .i64 a0_0, .int .i64 a0_1, .int .i64 a0_2, .int .u32 a0_3, .int .i64 a0_4]) (t := 24) ?hr ?_; (case hd => rfl); (case hg => rfl); (case hr => first | (go_simp; done) | (go_simp; rfl)); intro gb101 hg w28 hbox hb; have n0_ := Azz.mk (below_step (by repeat (first | (with_reducible first | exact HB.out | apply bal | apply pbN | apply bd1) | exact HB.out)) hb); have n1_ := Azz.mk (hbox); have n2_ := Azz.mk ((by rw [hg]; exact (below_size (by repeat (first | (with_reducible first | exact HB.out | apply bal | apply pbN | apply bd1) | exact HB.out))) : w.heap.size ≤ gb101)); have n3_ := Azz.mk ((by rw [hg]; exact (below_size (by repeat (first | (with_reducible first | exact HB.out | apply bal | apply pbN | apply bd1) | exact HB.out))) : w.heap.size ≤ gb101)); clear HB; have HB := n0_; have BK101 := n1_; have GW101 := n2_; have GE101 := n3_; clear n0_ n1_ n2_ n3_; clear hb hbox hg; have hcz29_0 : World.cell? _ ⟨gb101, 0, none⟩ = some (.int .i64 a0_0) := (kcl BK101.out 0).trans rfl; have hcz29_1 : World.cell? _ ⟨gb101, 1, none⟩ = some (.int .i64 a0_1) := (kcl BK101.out 1).trans rfl; have hcz29_2 : World.cell? _ ⟨gb101, 2, none⟩ = some (.int .i64 a0_2) := (kcl BK101.out 2).trans rfl; have hcz29_3 : World.cell? _ ⟨gb101, 3, none⟩ = some (.int .u32 a0_3) := (kcl BK101.out 3).trans rfl; have hcz29_4 : World.cell? _ ⟨gb101, 4, none⟩ = some (.int .i64 a0_4) := (kcl BK101.out 4).trans rfl; have hfz29_0 := kfz BK101.out 0; have hfz29_1 := kfz BK101.out 1; have hfz29_2 := kfz BK101.out 2; have hfz29_3 := kfz BK101.out 3; have hfz29_4 := kfz BK101.out 4) | (go_at_call 38; (with_reducible refine (frame_within.calls a0_1 0 7 true _ A18.out).mono ?_); rintro e w' ⟨rfl, ⟨nd, rfl⟩⟩) | (go_at_call 38; (with_reducible refine (frame_within.calls a0_2 0 1125899906842624 false _ A20.out).mono ?_); rintro e w' ⟨rfl, ⟨nd, rfl⟩⟩))
     go_ret
     exact ⟨by first | rfl | (simp [errW_none, errW_some] <;> rfl) | (simp [*, errW_none, errW_some] <;> rfl), by repeat (first | (with_reducible first | exact HB.out | apply bal | apply pbN | apply bd1 | refine bst ?_ GE101.out) | exact HB.out)⟩
   ·replace c19 := Bool.eq_false_iff.mpr c19
    subst c19
    have H1 : (some false) = some r := by rw [if_neg (show ¬ (false = true) by decide)] at H; exact H
    clear H
    have H := H1
    clear H1
    obtain rfl := Option.some.inj H
    go_enter Try.func27, Try.ntmps27
    go_wp2_with (first | ((with_reducible refine gate_dst (N := 1) rfl ?_); refine box_event ?hg (N := 1) ?hd (cs := #[.int .i64 a0_0, .int .i64 a0_1, .int .i64 a0_2, .int .u32 a0_3, .int .i64 a0_4]) (t := 24) ?hr ?_; (case hd => rfl); (case hg => rfl); (case hr => first | (go_simp; done) | (go_simp; rfl)); intro gb101 hg w30 hbox hb; have n0_ := Azz.mk (below_step (by repeat (first | (with_reducible first | exact HB.out | apply bal | apply pbN | apply bd1) | exact HB.out)) hb); have n1_ := Azz.mk (hbox); have n2_ := Azz.mk ((by rw [hg]; exact (below_size (by repeat (first | (with_reducible first | exact HB.out | apply bal | apply pbN | apply bd1) | exact HB.out))) : w.heap.size ≤ gb101)); have n3_ := Azz.mk ((by rw [hg]; exact (below_size (by repeat (first | (with_reducible first | exact HB.out | apply bal | apply pbN | apply bd1) | exact HB.out))) : w.heap.size ≤ gb101)); clear HB; have HB := n0_; have BK101 := n1_; have GW101 := n2_; have GE101 := n3_; clear n0_ n1_ n2_ n3_; clear hb hbox hg; have hcz31_0 : World.cell? _ ⟨gb101, 0, none⟩ = some (.int .i64 a0_0) := (kcl BK101.out 0).trans rfl; have hcz31_1 : World.cell? _ ⟨gb101, 1, none⟩ = some (.int .i64 a0_1) := (kcl BK101.out 1).trans rfl; have hcz31_2 : World.cell? _ ⟨gb101, 2, none⟩ = some (.int .i64 a0_2) := (kcl BK101.out 2).trans rfl; have hcz31_3 : World.cell? _ ⟨gb101, 3, none⟩ = some (.int .u32 a0_3) := (kcl BK101.out 3).trans rfl; have hcz31_4 : World.cell? _ ⟨gb101, 4, none⟩ = some (.int .i64 a0_4) := (kcl BK101.out 4).trans rfl; have hfz31_0 := kfz BK101.out 0; have hfz31_1 := kfz BK101.out 1; have hfz31_2 := kfz BK101.out 2; have hfz31_3 := kfz BK101.out 3; have hfz31_4 := kfz BK101.out 4) | (go_at_call 38; (with_reducible refine (frame_within.calls a0_1 0 7 false _ A18.out).mono ?_); rintro e w' ⟨rfl, ⟨nd, rfl⟩⟩))
    go_ret
    exact ⟨by first | rfl | (simp [errW_none, errW_some] <;> rfl) | (simp [*, errW_none, errW_some] <;> rfl), by repeat (first | (with_reducible first | exact HB.out | apply bal | apply pbN | apply bd1 | refine bst ?_ GE101.out) | exact HB.out)⟩
  ·rw [if_neg c17] at H
   have c17b0 : (a0_0 == 2) = false := beq_eq_false_iff_ne.mpr c17
   have c17b1 : (a0_0 != 2) = true := bne_iff_ne.mpr c17
   obtain rfl := Option.some.inj H
   go_enter Try.func27, Try.ntmps27
   go_wp2_with (first | ((with_reducible refine gate_dst (N := 1) rfl ?_); refine box_event ?hg (N := 1) ?hd (cs := #[.int .i64 a0_0, .int .i64 a0_1, .int .i64 a0_2, .int .u32 a0_3, .int .i64 a0_4]) (t := 24) ?hr ?_; (case hd => rfl); (case hg => rfl); (case hr => first | (go_simp; done) | (go_simp; rfl)); intro gb101 hg w32 hbox hb; have n0_ := Azz.mk (below_step (by repeat (first | (with_reducible first | exact HB.out | apply bal | apply pbN | apply bd1) | exact HB.out)) hb); have n1_ := Azz.mk (hbox); have n2_ := Azz.mk ((by rw [hg]; exact (below_size (by repeat (first | (with_reducible first | exact HB.out | apply bal | apply pbN | apply bd1) | exact HB.out))) : w.heap.size ≤ gb101)); have n3_ := Azz.mk ((by rw [hg]; exact (below_size (by repeat (first | (with_reducible first | exact HB.out | apply bal | apply pbN | apply bd1) | exact HB.out))) : w.heap.size ≤ gb101)); clear HB; have HB := n0_; have BK101 := n1_; have GW101 := n2_; have GE101 := n3_; clear n0_ n1_ n2_ n3_; clear hb hbox hg; have hcz33_0 : World.cell? _ ⟨gb101, 0, none⟩ = some (.int .i64 a0_0) := (kcl BK101.out 0).trans rfl; have hcz33_1 : World.cell? _ ⟨gb101, 1, none⟩ = some (.int .i64 a0_1) := (kcl BK101.out 1).trans rfl; have hcz33_2 : World.cell? _ ⟨gb101, 2, none⟩ = some (.int .i64 a0_2) := (kcl BK101.out 2).trans rfl; have hcz33_3 : World.cell? _ ⟨gb101, 3, none⟩ = some (.int .u32 a0_3) := (kcl BK101.out 3).trans rfl; have hcz33_4 : World.cell? _ ⟨gb101, 4, none⟩ = some (.int .i64 a0_4) := (kcl BK101.out 4).trans rfl; have hfz33_0 := kfz BK101.out 0; have hfz33_1 := kfz BK101.out 1; have hfz33_2 := kfz BK101.out 2; have hfz33_3 := kfz BK101.out 3; have hfz33_4 := kfz BK101.out 4))
   go_ret
   exact ⟨by first | rfl | (simp [errW_none, errW_some] <;> rfl) | (simp [*, errW_none, errW_some] <;> rfl), by repeat (first | (with_reducible first | exact HB.out | apply bal | apply pbN | apply bd1 | refine bst ?_ GE101.out) | exact HB.out)⟩

end Go.Proofs.Ytgeheedfmdlefaa.PF
end

section
namespace Go.Proofs.Ytgeheedfmdlefaa.PF
open Go.RowKit Go.Proofs.YtgeheedfmdlefaaW.PrintWords Go.Proofs.YtgeheedfmdlefaaW.PrintLast Go.Proofs.YtgeheedfmdlefaaW.PrintMore Go.Proofs.Ytgeheedfmdlefaa.Conv
attribute [local go_sem] max2_int min2_int max_two min_two max_three min_three max_four min_four   -- for this text's walks alone
set_option linter.unusedVariables false
set_option linter.unusedSimpArgs false

/-! ### frame_get: function 31 -/
def frame_get.l0 : Nat → Int → List Int → Int → Int → Option (Int)
 | 0, _, _, _, _ => none
 | k + 1, x3, x6, x7, x8 => if x8 < x7 then (if 0 ≤ x8 then (if x8 < (x6.length : Int) then (frame_get.l0 k (Go.bits .or .u64 (IntKind.u64.wrap (x3 * 256)) (IntKind.u64.wrap (rd x6 x8))) x6 x7 (wrap64 (x8 + 1))) else (none)) else (none)) else (some x3)
def frame_get.f (k : Nat) (l0 : List Int) : Option (Int) := frame_get.l0 k 0 l0 (l0.length : Int) 0
theorem frame_get.mono_l : ∀ k, (∀ y0 y1 y2 y3, LeO (frame_get.l0 k y0 y1 y2 y3) (frame_get.l0 (k + 1) y0 y1 y2 y3))
 | 0 => fun _ _ _ _ r h => by simp [frame_get.l0] at h
 | k + 1 => by
  have ih0 := frame_get.mono_l k
  ·intro y0 y1 y2 y3
   unfold frame_get.l0
   repeat' first
   | (with_reducible exact ih0 _ _ _ _)
   | (with_reducible exact LeO.refl _)
   | (with_reducible exact LeO.none _)
   | (with_reducible refine LeO.ite ?_ ?_)
   | (with_reducible refine LeO.bind ?_ (fun _ => ?_))
   | exact ih0 _ _ _ _
   | exact LeO.none _
   | refine LeO.ite ?_ ?_
   | refine LeO.bind ?_ (fun _ => ?_)
theorem frame_get.mono : ∀ a0 k, LeO (frame_get.f k a0) (frame_get.f (k + 1) a0) := by
 intro a0 k
 have ih0 := frame_get.mono_l k
 unfold frame_get.f
 repeat' first
   | (with_reducible exact ih0 _ _ _ _)
   | (with_reducible exact LeO.refl _)
   | (with_reducible exact LeO.none _)
   | (with_reducible refine LeO.ite ?_ ?_)
   | (with_reducible refine LeO.bind ?_ (fun _ => ?_))
   | exact ih0 _ _ _ _
   | exact LeO.none _
   | refine LeO.ite ?_ ?_
   | refine LeO.bind ?_ (fun _ => ?_)
set_option maxHeartbeats 8000000 in
set_option maxRecDepth 100000 in
theorem frame_get.calls (k : Nat) (A0 : Option Addr) (c0 : Nat) (l0 : List Int) (r : Int) (w : World) (hr0 : Kd.C (Kd.int .u8) w A0 l0.length l0) (hc0 : l0.length ≤ c0) (h : frame_get.f k l0 = some r) :
  Calls Try.prog 31 #[.slice A0 l0.length c0] w fun e w' => e = .returned (.int .u64 r) ∧ Drawn0 w w' := by
 have HR0 := Azz.mk hr0
 have HC0 := Azz.mk hc0
 clear hr0 hc0
 have H : (frame_get.l0 k 0 l0 (l0.length : Int) 0) = some r := h
 clear h
 have H' := Azz.mk H
 clear H
 go_enter Try.func31, Try.ntmps31
 go_wp2
 go_loopg [3, 8] k (fun kq v3 v8 w' => ∃ (x3_1 : Int) (x8_1 : Int), v3 = .int .u64 x3_1 ∧ v8 = .int .i64 x8_1 ∧ Azz (frame_get.l0 kq x3_1 l0 (l0.length : Int) x8_1 = some r) ∧ Azz (kq ≤ k) ∧ Drawn0 w w')
 case atStart => exact ⟨(0), (0), (by first | rfl | (simp; done) | (simp [*]; done)), (by first | rfl | (simp; done) | (simp [*]; done)), H', ⟨Nat.le_refl _⟩, by repeat (first | exact Drawn0.refl _ | apply Drawn0.step)⟩
 case round =>
  clear H'
  obtain ⟨x3_1, x8_1, rfl, rfl, HA, HK1, ⟨m1, rfl⟩⟩ := hrel
  cases gk with
  | zero => exact absurd HA.out (by simp [frame_get.l0])
  | succ k1 =>
   have H := HA.out
   clear HA
   simp only [frame_get.l0] at H
   by_cases c2 : x8_1 < (l0.length : Int)
   ·rw [if_pos c2] at H
    have c2b0 : decide (x8_1 < (l0.length : Int)) = true := decide_eq_true c2
    clear c2
    by_cases c3 : 0 ≤ x8_1
    ·rw [if_pos c3] at H
     have c3b0 : decide (0 ≤ x8_1) = true := decide_eq_true c3
     clear c3
     by_cases c4 : x8_1 < (l0.length : Int)
     ·rw [if_pos c4] at H
      have c4b0 : decide (x8_1 < (l0.length : Int)) = true := decide_eq_true c4
      clear c4
      have H' := Azz.mk H
      clear H
      have p136 : 0 ≤ (x8_1 : Int) := of_decide_eq_true (by first | (with_reducible assumption) | assumption)
      have q136 : x8_1 < (l0.length : Int) := of_decide_eq_true (by first | (with_reducible assumption) | assumption)
      obtain ⟨ad136, e136, hx136_0⟩ := Kd.at_int HR0.out x8_1 p136 q136
      cases e136
      replace p136 := eq_true p136
      replace q136 := eq_true q136
      go_wp2
      go_roundg k1
      case measure => have := HK1.out; omega
      case rel => exact ⟨(Go.bits .or .u64 (IntKind.u64.wrap (x3_1 * 256)) (IntKind.u64.wrap (rd l0 x8_1))), (wrap64 (x8_1 + 1)), (by first | rfl | (simp; done) | (simp [*]; done)), (by first | rfl | (simp; done) | (simp [*]; done)), H', ⟨by have := HK1.out; omega⟩, by repeat (first | exact Drawn0.refl _ | apply Drawn0.step)⟩
     ·rw [if_neg c4] at H
      exact absurd H (by simp)
    ·rw [if_neg c3] at H
     exact absurd H (by simp)
   ·rw [if_neg c2] at H
    have c2b0 : decide (x8_1 < (l0.length : Int)) = false := decide_eq_false c2
    clear c2
    obtain rfl := Option.some.inj H
    go_wp2
    go_ret
    exact ⟨by first | rfl | (simp; done) | (simp [*]; done), by repeat (first | exact Drawn0.refl _ | apply Drawn0.step)⟩

end Go.Proofs.Ytgeheedfmdlefaa.PF
end

section
namespace Go.Proofs.Ytgeheedfmdlefaa.PF
open Go.RowKit Go.Proofs.YtgeheedfmdlefaaW.PrintWords Go.Proofs.YtgeheedfmdlefaaW.PrintLast Go.Proofs.YtgeheedfmdlefaaW.PrintMore Go.Proofs.Ytgeheedfmdlefaa.Conv
attribute [local go_sem] max2_int min2_int max_two min_two max_three min_three max_four min_four   -- for this text's walks alone
set_option linter.unusedVariables false
set_option linter.unusedSimpArgs false

/-! ### frame_Which: function 16 -/
def frame_Which.f (k : Nat) (l0 : List Int) : Option (Int) := if (l0.length : Int) ≥ 2 then (if 2 ≤ (l0.length : Int) then ((frame_get.f k (l0.take 2)).bind fun t141 => (if t141 = 35101 then (some 1) else (if t141 = 2048 then (some 2) else (some 0)))) else (none)) else (some 0)
theorem frame_Which.mono : ∀ a0 k, LeO (frame_Which.f k a0) (frame_Which.f (k + 1) a0) := by
 intro a0 k
 unfold frame_Which.f
 repeat' first
   | (with_reducible exact frame_get.mono _ _)
   | (with_reducible exact LeO.refl _)
   | (with_reducible exact LeO.none _)
   | (with_reducible refine LeO.ite ?_ ?_)
   | (with_reducible refine LeO.bind ?_ (fun _ => ?_))
   | exact frame_get.mono _ _
   | exact LeO.none _
   | refine LeO.ite ?_ ?_
   | refine LeO.bind ?_ (fun _ => ?_)
set_option maxHeartbeats 8000000 in
set_option maxRecDepth 100000 in
theorem frame_Which.calls (k : Nat) (A0 : Option Addr) (c0 : Nat) (l0 : List Int) (r : Int) (w : World) (hr0 : Kd.C (Kd.int .u8) w A0 l0.length l0) (hc0 : l0.length ≤ c0) (h : frame_Which.f k l0 = some r) :
  Calls Try.prog 16 #[.slice A0 l0.length c0] w fun e w' => e = .returned (.int .i64 r) ∧ Drawn0 w w' := by
 have HR0 := Azz.mk hr0
 have HC0 := Azz.mk hc0
 clear hr0 hc0
 have H : (if (l0.length : Int) ≥ 2 then (if 2 ≤ (l0.length : Int) then ((frame_get.f k (l0.take 2)).bind fun t141 => (if t141 = 35101 then (some 1) else (if t141 = 2048 then (some 2) else (some 0)))) else (none)) else (some 0)) = some r := h
 clear h
 by_cases c2 : (l0.length : Int) ≥ 2
 ·rw [if_pos c2] at H
  have c2b0 : decide (2 ≤ (l0.length : Int)) = true := decide_eq_true c2
  have c2b1 : decide (2 ≤ l0.length) = true := decide_eq_true (by omega)
  clear c2
  by_cases c3 : 2 ≤ (l0.length : Int)
  ·rw [if_pos c3] at H
   have c3b0 := eq_true c3
   have c3b1 : decide (2 ≤ (l0.length : Int)) = true := decide_eq_true c3
   clear c3
   obtain ⟨y137, hy137⟩ : ∃ y_ : List Int, y_ = (l0.take 2) := ⟨_, rfl⟩
   replace H : ((frame_get.f k y137).bind fun t141 => (if t141 = 35101 then (some 1) else (if t141 = 2048 then (some 2) else (some 0)))) = some r := by first | (rw [hy137]; with_reducible exact H) | (have H2_ := (Option.bind_some _ _).symm.trans H; rw [hy137]; with_reducible exact H2_) | (have H2_ := (Option.bind_some _ _).symm.trans H; with_reducible exact H2_) | with_reducible exact H | (rw [hy137]; exact H) | exact H
   have Ny137 := Azz.mk hy137
   clear hy137
   replace H := Option.bind_eq_some_iff.mp H
   obtain ⟨t141, A40, H⟩ := H
   replace H : (if t141 = 35101 then (some 1) else (if t141 = 2048 then (some 2) else (some 0))) = some r := H
   have A4 := Azz.mk A40
   clear A40
   by_cases c5 : t141 = 35101
   ·rw [if_pos c5] at H
    have c5b0 : (t141 == 35101) = true := beq_iff_eq.mpr c5
    have c5b1 : (t141 != 35101) = false := bne_eq_false_iff_eq.mpr c5
    clear c5
    obtain rfl := Option.some.inj H
    have q6 : (2 : Int) ≤ ((l0.length : Int) : Int) := of_decide_eq_true (by first | (with_reducible assumption) | assumption)
    obtain ⟨i06, hi06, _, hsz6, _⟩ := info_parts info5
    have hroom6 : l0.length ≤ c0 := HC0.out
    have hC6 : Kd.C (Kd.int .u8) _ A0 l0.length l0 := HR0.out
    have hcut6 := cut_to (P := Try.prog) 26 5 .i64 Try.underlying26 hi06 A0 l0.length c0 2 (by omega) q6 hroom6
    have hr6 := Kd.C_take (m := 2) hC6 (by omega)
    have hy6 : y137.length = (2 : Int).toNat := (by rw [Ny137.out, List.length_take]; omega)
    rw [← Ny137.out] at hr6
    rw [← hy6] at hcut6
    have HR140 := Azz.mk hr6
    have HC140 := Azz.mk (show y137.length ≤ c0 from by omega)
    clear hr6 hC6 hroom6 hi06 hsz6
    have KY6 := Azz.mk hy6
    clear hy6
    replace q6 := eq_true q6
    go_enter Try.func16, Try.ntmps16
    go_wp2_with (first | ((with_reducible refine gate_callee (f := 31) rfl ?_); refine goesL_ (some 8) rfl rfl Try.func31 (by kernel_rfl) rfl #[.slice A0 y137.length c0] rfl (by (try simp only [List.map_toArray, List.map_cons, List.map_nil]); first | done | rfl | (simp only [List.length_drop, List.length_take]; rfl)) ?_; (with_reducible refine (frame_get.calls k _ _ y137 t141 _ ?side1 ?side2 A4.out).mono ?_); (case side1 => repeat (first | exact HR140.out | (with_reducible refine Kd.C_alloc ?_ _) | (with_reducible refine Kd.C_drewN ?_ _) | (with_reducible refine Kd.C_drew ?_))); (case side2 => exact HC140.out); rintro e w' ⟨rfl, ⟨nd, rfl⟩⟩; refine ⟨_, rfl, ?_⟩))
    go_ret
    exact ⟨by first | rfl | (simp; done) | (simp [*]; done), by repeat (first | exact Drawn0.refl _ | apply Drawn0.step)⟩
   ·rw [if_neg c5] at H
    have c5b0 : (t141 == 35101) = false := beq_eq_false_iff_ne.mpr c5
    have c5b1 : (t141 != 35101) = true := bne_iff_ne.mpr c5
    by_cases c7 : t141 = 2048
    ·rw [if_pos c7] at H
     have c7b0 : (t141 == 2048) = true := beq_iff_eq.mpr c7
     have c7b1 : (t141 != 2048) = false := bne_eq_false_iff_eq.mpr c7
     clear c7
     obtain rfl := Option.some.inj H
     have q8 : (2 : Int) ≤ ((l0.length : Int) : Int) := of_decide_eq_true (by first | (with_reducible assumption) | assumption)
     obtain ⟨i08, hi08, _, hsz8, _⟩ := info_parts info5
     have hroom8 : l0.length ≤ c0 := HC0.out
     have hC8 : Kd.C (Kd.int .u8) _ A0 l0.length l0 := HR0.out
     have hcut8 := cut_to (P := Try.prog) 26 5 .i64 Try.underlying26 hi08 A0 l0.length c0 2 (by omega) q8 hroom8
     have hr8 := Kd.C_take (m := 2) hC8 (by omega)
     have hy8 : y137.length = (2 : Int).toNat := (by rw [Ny137.out, List.length_take]; omega)
     rw [← Ny137.out] at hr8
     rw [← hy8] at hcut8
     have HR140 := Azz.mk hr8
     have HC140 := Azz.mk (show y137.length ≤ c0 from by omega)
     clear hr8 hC8 hroom8 hi08 hsz8
     have KY8 := Azz.mk hy8
     clear hy8
     replace q8 := eq_true q8
     go_enter Try.func16, Try.ntmps16
     go_wp2_with (first | ((with_reducible refine gate_callee (f := 31) rfl ?_); refine goesL_ (some 8) rfl rfl Try.func31 (by kernel_rfl) rfl #[.slice A0 y137.length c0] rfl (by (try simp only [List.map_toArray, List.map_cons, List.map_nil]); first | done | rfl | (simp only [List.length_drop, List.length_take]; rfl)) ?_; (with_reducible refine (frame_get.calls k _ _ y137 t141 _ ?side1 ?side2 A4.out).mono ?_); (case side1 => repeat (first | exact HR140.out | (with_reducible refine Kd.C_alloc ?_ _) | (with_reducible refine Kd.C_drewN ?_ _) | (with_reducible refine Kd.C_drew ?_))); (case side2 => exact HC140.out); rintro e w' ⟨rfl, ⟨nd, rfl⟩⟩; refine ⟨_, rfl, ?_⟩))
     go_ret
     exact ⟨by first | rfl | (simp; done) | (simp [*]; done), by repeat (first | exact Drawn0.refl _ | apply Drawn0.step)⟩
    ·rw [if_neg c7] at H
     have c7b0 : (t141 == 2048) = false := beq_eq_false_iff_ne.mpr c7
     have c7b1 : (t141 != 2048) = true := bne_iff_ne.mpr c7
     obtain rfl := Option.some.inj H
     have q9 : (2 : Int) ≤ ((l0.length : Int) : Int) := of_decide_eq_true (by first | (with_reducible assumption) | assumption)
     obtain ⟨i09, hi09, _, hsz9, _⟩ := info_parts info5
     have hroom9 : l0.length ≤ c0 := HC0.out
     have hC9 : Kd.C (Kd.int .u8) _ A0 l0.length l0 := HR0.out
     have hcut9 := cut_to (P := Try.prog) 26 5 .i64 Try.underlying26 hi09 A0 l0.length c0 2 (by omega) q9 hroom9
     have hr9 := Kd.C_take (m := 2) hC9 (by omega)
     have hy9 : y137.length = (2 : Int).toNat := (by rw [Ny137.out, List.length_take]; omega)
     rw [← Ny137.out] at hr9
     rw [← hy9] at hcut9
     have HR140 := Azz.mk hr9
     have HC140 := Azz.mk (show y137.length ≤ c0 from by omega)
     clear hr9 hC9 hroom9 hi09 hsz9
     have KY9 := Azz.mk hy9
     clear hy9
     replace q9 := eq_true q9
     go_enter Try.func16, Try.ntmps16
     go_wp2_with (first | ((with_reducible refine gate_callee (f := 31) rfl ?_); refine goesL_ (some 8) rfl rfl Try.func31 (by kernel_rfl) rfl #[.slice A0 y137.length c0] rfl (by (try simp only [List.map_toArray, List.map_cons, List.map_nil]); first | done | rfl | (simp only [List.length_drop, List.length_take]; rfl)) ?_; (with_reducible refine (frame_get.calls k _ _ y137 t141 _ ?side1 ?side2 A4.out).mono ?_); (case side1 => repeat (first | exact HR140.out | (with_reducible refine Kd.C_alloc ?_ _) | (with_reducible refine Kd.C_drewN ?_ _) | (with_reducible refine Kd.C_drew ?_))); (case side2 => exact HC140.out); rintro e w' ⟨rfl, ⟨nd, rfl⟩⟩; refine ⟨_, rfl, ?_⟩))
     go_ret
     exact ⟨by first | rfl | (simp; done) | (simp [*]; done), by repeat (first | exact Drawn0.refl _ | apply Drawn0.step)⟩
  ·rw [if_neg c3] at H
   exact absurd H (by simp)
 ·rw [if_neg c2] at H
  have c2b0 : decide (2 ≤ (l0.length : Int)) = false := decide_eq_false c2
  have c2b1 : decide (2 ≤ l0.length) = false := decide_eq_false (by omega)
  clear c2
  obtain rfl := Option.some.inj H
  go_enter Try.func16, Try.ntmps16
  go_wp2
  go_ret
  exact ⟨by first | rfl | (simp; done) | (simp [*]; done), by repeat (first | exact Drawn0.refl _ | apply Drawn0.step)⟩

end Go.Proofs.Ytgeheedfmdlefaa.PF
end

section
namespace Go.Proofs.Ytgeheedfmdlefaa.PF
open Go.RowKit Go.Proofs.YtgeheedfmdlefaaW.PrintWords Go.Proofs.YtgeheedfmdlefaaW.PrintLast Go.Proofs.YtgeheedfmdlefaaW.PrintMore Go.Proofs.Ytgeheedfmdlefaa.Conv
attribute [local go_sem] max2_int min2_int max_two min_two max_three min_three max_four min_four   -- for this text's walks alone
set_option linter.unusedVariables false
set_option linter.unusedSimpArgs false

/-! ### frame_Sum: function 23 -/
mutual
def frame_Sum.l0 : Nat → Int → List Int → Int → Int → Option (Int)
 | 0, _, _, _, _ => none
 | k + 1, x3, x7, x8, x9 => if x9 < x8 then (if 0 ≤ x9 then (if x9 < (x7.length : Int) then (frame_Sum.l1 k (Go.bits .xor .u32 x3 ((rd x7 x9) % 4294967296)) x7 x8 x9 0) else (none)) else (none)) else (some (Go.bits .xor .u32 4294967295 x3))
def frame_Sum.l1 : Nat → Int → List Int → Int → Int → Int → Option (Int)
 | 0, _, _, _, _, _ => none
 | k + 1, x3, x7, x8, x9, x17 => if x17 < 8 then (if (Go.bits .and .u32 x3 1) = 1 then (frame_Sum.l1 k (Go.bits .xor .u32 (x3 / 2) 3988292384) x7 x8 x9 (wrap64 (x17 + 1))) else (frame_Sum.l1 k (x3 / 2) x7 x8 x9 (wrap64 (x17 + 1)))) else (frame_Sum.l0 k x3 x7 x8 (wrap64 (x9 + 1)))
end
def frame_Sum.f (k : Nat) (l0 : List Int) : Option (Int) := frame_Sum.l0 k 4294967295 l0 (l0.length : Int) 0
theorem frame_Sum.mono_l : ∀ k, (∀ y0 y1 y2 y3, LeO (frame_Sum.l0 k y0 y1 y2 y3) (frame_Sum.l0 (k + 1) y0 y1 y2 y3)) ∧ (∀ y0 y1 y2 y3 y4, LeO (frame_Sum.l1 k y0 y1 y2 y3 y4) (frame_Sum.l1 (k + 1) y0 y1 y2 y3 y4))
 | 0 => ⟨fun _ _ _ _ r h => by simp [frame_Sum.l0] at h, fun _ _ _ _ _ r h => by simp [frame_Sum.l1] at h⟩
 | k + 1 => by
  obtain ⟨ih0, ih1⟩ := frame_Sum.mono_l k
  refine ⟨?_, ?_⟩
  ·intro y0 y1 y2 y3
   unfold frame_Sum.l0
   repeat' first
   | (with_reducible exact ih0 _ _ _ _)
   | (with_reducible exact ih1 _ _ _ _ _)
   | (with_reducible exact LeO.refl _)
   | (with_reducible exact LeO.none _)
   | (with_reducible refine LeO.ite ?_ ?_)
   | (with_reducible refine LeO.bind ?_ (fun _ => ?_))
   | exact ih0 _ _ _ _
   | exact ih1 _ _ _ _ _
   | exact LeO.none _
   | refine LeO.ite ?_ ?_
   | refine LeO.bind ?_ (fun _ => ?_)
  ·intro y0 y1 y2 y3 y4
   unfold frame_Sum.l1
   repeat' first
   | (with_reducible exact ih0 _ _ _ _)
   | (with_reducible exact ih1 _ _ _ _ _)
   | (with_reducible exact LeO.refl _)
   | (with_reducible exact LeO.none _)
   | (with_reducible refine LeO.ite ?_ ?_)
   | (with_reducible refine LeO.bind ?_ (fun _ => ?_))
   | exact ih0 _ _ _ _
   | exact ih1 _ _ _ _ _
   | exact LeO.none _
   | refine LeO.ite ?_ ?_
   | refine LeO.bind ?_ (fun _ => ?_)
theorem frame_Sum.mono : ∀ a0 k, LeO (frame_Sum.f k a0) (frame_Sum.f (k + 1) a0) := by
 intro a0 k
 obtain ⟨ih0, ih1⟩ := frame_Sum.mono_l k
 unfold frame_Sum.f
 repeat' first
   | (with_reducible exact ih0 _ _ _ _)
   | (with_reducible exact ih1 _ _ _ _ _)
   | (with_reducible exact LeO.refl _)
   | (with_reducible exact LeO.none _)
   | (with_reducible refine LeO.ite ?_ ?_)
   | (with_reducible refine LeO.bind ?_ (fun _ => ?_))
   | exact ih0 _ _ _ _
   | exact ih1 _ _ _ _ _
   | exact LeO.none _
   | refine LeO.ite ?_ ?_
   | refine LeO.bind ?_ (fun _ => ?_)
set_option maxHeartbeats 8000000 in
set_option maxRecDepth 100000 in
theorem frame_Sum.calls (k : Nat) (A0 : Option Addr) (c0 : Nat) (l0 : List Int) (r : Int) (w : World) (hr0 : Kd.C (Kd.int .u8) w A0 l0.length l0) (hc0 : l0.length ≤ c0) (h : frame_Sum.f k l0 = some r) :
  Calls Try.prog 23 #[.slice A0 l0.length c0] w fun e w' => e = .returned (.int .u32 r) ∧ Drawn0 w w' := by
 have HR0 := Azz.mk hr0
 have HC0 := Azz.mk hc0
 clear hr0 hc0
 have H : (frame_Sum.l0 k 4294967295 l0 (l0.length : Int) 0) = some r := h
 clear h
 have H' := Azz.mk H
 clear H
 go_enter Try.func23, Try.ntmps23
 go_wp2
 go_loopg [3, 9] k (fun kq v3 v9 w' => ∃ (x3_1 : Int) (x9_1 : Int), v3 = .int .u32 x3_1 ∧ v9 = .int .i64 x9_1 ∧ Azz (frame_Sum.l0 kq x3_1 l0 (l0.length : Int) x9_1 = some r) ∧ Azz (kq ≤ k) ∧ Drawn0 w w')
 case atStart => exact ⟨(4294967295), (0), (by first | rfl | (simp; done) | (simp [*]; done)), (by first | rfl | (simp; done) | (simp [*]; done)), H', ⟨Nat.le_refl _⟩, by repeat (first | exact Drawn0.refl _ | apply Drawn0.step)⟩
 case round =>
  clear H'
  obtain ⟨x3_1, x9_1, rfl, rfl, HA, HK1, ⟨m1, rfl⟩⟩ := hrel
  cases gk with
  | zero => exact absurd HA.out (by simp [frame_Sum.l0])
  | succ k1 =>
   have H := HA.out
   clear HA
   simp only [frame_Sum.l0] at H
   by_cases c2 : x9_1 < (l0.length : Int)
   ·rw [if_pos c2] at H
    have c2b0 : decide (x9_1 < (l0.length : Int)) = true := decide_eq_true c2
    clear c2
    by_cases c3 : 0 ≤ x9_1
    ·rw [if_pos c3] at H
     have c3b0 : decide (0 ≤ x9_1) = true := decide_eq_true c3
     clear c3
     by_cases c4 : x9_1 < (l0.length : Int)
     ·rw [if_pos c4] at H
      have c4b0 : decide (x9_1 < (l0.length : Int)) = true := decide_eq_true c4
      clear c4
      have H' := Azz.mk H
      clear H
      have p111 : 0 ≤ (x9_1 : Int) := of_decide_eq_true (by first | (with_reducible assumption) | assumption)
      have q111 : x9_1 < (l0.length : Int) := of_decide_eq_true (by first | (with_reducible assumption) | assumption)
      obtain ⟨ad111, e111, hx111_0⟩ := Kd.at_int HR0.out x9_1 p111 q111
      cases e111
      replace p111 := eq_true p111
      replace q111 := eq_true q111
      go_wp2
      go_loopg [3, 17] k1 (fun kq v3 v17 w' => ∃ (x3_2 : Int) (x17_2 : Int), v3 = .int .u32 x3_2 ∧ v17 = .int .i64 x17_2 ∧ Azz (frame_Sum.l1 kq x3_2 l0 (l0.length : Int) x9_1 x17_2 = some r) ∧ Azz (kq ≤ k1) ∧ Drawn0 w w')
      case atStart => exact ⟨(Go.bits .xor .u32 x3_1 ((rd l0 x9_1) % 4294967296)), (0), (by first | rfl | (simp; done) | (simp [*]; done)), (by first | rfl | (simp; done) | (simp [*]; done)), H', ⟨Nat.le_refl _⟩, by repeat (first | exact Drawn0.refl _ | apply Drawn0.step)⟩
      case round =>
       clear H'
       try clear p1
       try clear q1
       try clear hx1
       try clear c2
       try clear c2b0
       try clear p2
       try clear c3
       try clear c3b0
       try clear c4
       try clear c4b0
       try clear hx111_0
       try clear p111
       try clear q111
       obtain ⟨x3_2, x17_2, rfl, rfl, HA, HK2, ⟨m2, rfl⟩⟩ := hrel
       cases gk with
       | zero => exact absurd HA.out (by simp [frame_Sum.l1])
       | succ k2 =>
        have H := HA.out
        clear HA
        simp only [frame_Sum.l1] at H
        by_cases c5 : x17_2 < 8
        ·rw [if_pos c5] at H
         have c5b0 : decide (x17_2 < 8) = true := decide_eq_true c5
         clear c5
         by_cases c6 : (Go.bits .and .u32 x3_2 1) = 1
         ·rw [if_pos c6] at H
          have c6b0 : ((Go.bits .and .u32 x3_2 1) == 1) = true := beq_iff_eq.mpr c6
          have c6b1 : ((Go.bits .and .u32 x3_2 1) != 1) = false := bne_eq_false_iff_eq.mpr c6
          clear c6
          have H' := Azz.mk H
          clear H
          go_wp2
          go_roundg k2
          case measure => have := HK1.out; have := HK2.out; omega
          case rel => exact ⟨(Go.bits .xor .u32 (x3_2 / 2) 3988292384), (wrap64 (x17_2 + 1)), (by first | rfl | (simp; done) | (simp [*]; done)), (by first | rfl | (simp; done) | (simp [*]; done)), H', ⟨by have := HK1.out; have := HK2.out; omega⟩, by repeat (first | exact Drawn0.refl _ | apply Drawn0.step)⟩
         ·rw [if_neg c6] at H
          have c6b0 : ((Go.bits .and .u32 x3_2 1) == 1) = false := beq_eq_false_iff_ne.mpr c6
          have c6b1 : ((Go.bits .and .u32 x3_2 1) != 1) = true := bne_iff_ne.mpr c6
          have H' := Azz.mk H
          clear H
          go_wp2
          go_roundg k2
          case measure => have := HK1.out; have := HK2.out; omega
          case rel => exact ⟨(x3_2 / 2), (wrap64 (x17_2 + 1)), (by first | rfl | (simp; done) | (simp [*]; done)), (by first | rfl | (simp; done) | (simp [*]; done)), H', ⟨by have := HK1.out; have := HK2.out; omega⟩, by repeat (first | exact Drawn0.refl _ | apply Drawn0.step)⟩
        ·rw [if_neg c5] at H
         have c5b0 : decide (x17_2 < 8) = false := decide_eq_false c5
         clear c5
         have H' := Azz.mk H
         clear H
         go_wp2
         go_roundg k2
         case measure => have := HK1.out; have := HK2.out; omega
         case rel => exact ⟨(x3_2), (wrap64 (x9_1 + 1)), (by first | rfl | (simp; done) | (simp [*]; done)), (by first | rfl | (simp; done) | (simp [*]; done)), H', ⟨by have := HK1.out; have := HK2.out; omega⟩, by repeat (first | exact Drawn0.refl _ | apply Drawn0.step)⟩
     ·rw [if_neg c4] at H
      exact absurd H (by simp)
    ·rw [if_neg c3] at H
     exact absurd H (by simp)
   ·rw [if_neg c2] at H
    have c2b0 : decide (x9_1 < (l0.length : Int)) = false := decide_eq_false c2
    clear c2
    obtain rfl := Option.some.inj H
    go_wp2
    go_ret
    exact ⟨by first | rfl | (simp; done) | (simp [*]; done), by repeat (first | exact Drawn0.refl _ | apply Drawn0.step)⟩

end Go.Proofs.Ytgeheedfmdlefaa.PF
end

section
namespace Go.Proofs.Ytgeheedfmdlefaa.PF
open Go.RowKit Go.Proofs.YtgeheedfmdlefaaW.PrintWords Go.Proofs.YtgeheedfmdlefaaW.PrintLast Go.Proofs.YtgeheedfmdlefaaW.PrintMore Go.Proofs.Ytgeheedfmdlefaa.Conv
attribute [local go_sem] max2_int min2_int max_two min_two max_three min_three max_four min_four   -- for this text's walks alone
set_option linter.unusedVariables false
set_option linter.unusedSimpArgs false

/-! ### frame_open: function 30 -/
def frame_open.f (k : Nat) (l0 : List Int) : Option (Bool) := if 0 ≤ (wrap64 ((l0.length : Int) - 4)) then (if (wrap64 ((l0.length : Int) - 4)) ≤ (l0.length : Int) then ((frame_get.f k (l0.drop ((wrap64 ((l0.length : Int) - 4)) : Int).toNat)).bind fun t146 => ((frame_Sum.f k (l0.take ((wrap64 ((l0.length : Int) - 4)) : Int).toNat)).bind fun t151 => (some (t146 == (IntKind.u64.wrap (t151)))))) else (none)) else (none)
theorem frame_open.mono : ∀ a0 k, LeO (frame_open.f k a0) (frame_open.f (k + 1) a0) := by
 intro a0 k
 unfold frame_open.f
 repeat' first
   | (with_reducible exact frame_Sum.mono _ _)
   | (with_reducible exact frame_get.mono _ _)
   | (with_reducible exact LeO.refl _)
   | (with_reducible exact LeO.none _)
   | (with_reducible refine LeO.ite ?_ ?_)
   | (with_reducible refine LeO.bind ?_ (fun _ => ?_))
   | exact frame_Sum.mono _ _
   | exact frame_get.mono _ _
   | exact LeO.none _
   | refine LeO.ite ?_ ?_
   | refine LeO.bind ?_ (fun _ => ?_)
set_option maxHeartbeats 8000000 in
set_option maxRecDepth 100000 in
theorem frame_open.calls (k : Nat) (A0 : Option Addr) (c0 : Nat) (l0 : List Int) (r : Bool) (w : World) (hr0 : Kd.C (Kd.int .u8) w A0 l0.length l0) (hc0 : l0.length ≤ c0) (h : frame_open.f k l0 = some r) :
  Calls Try.prog 30 #[.slice A0 l0.length c0] w fun e w' => e = .returned (.bool r) ∧ Drawn0 w w' := by
 have HR0 := Azz.mk hr0
 have HC0 := Azz.mk hc0
 clear hr0 hc0
 have H : (if 0 ≤ (wrap64 ((l0.length : Int) - 4)) then (if (wrap64 ((l0.length : Int) - 4)) ≤ (l0.length : Int) then ((frame_get.f k (l0.drop ((wrap64 ((l0.length : Int) - 4)) : Int).toNat)).bind fun t146 => ((frame_Sum.f k (l0.take ((wrap64 ((l0.length : Int) - 4)) : Int).toNat)).bind fun t151 => (some (t146 == (IntKind.u64.wrap (t151)))))) else (none)) else (none)) = some r := h
 clear h
 obtain ⟨ji2, hji2⟩ : ∃ j_ : Int, (wrap64 ((l0.length : Int) - 4)) = j_ := ⟨_, rfl⟩
 replace H : (if 0 ≤ (ji2) then (if (ji2) ≤ (l0.length : Int) then ((frame_get.f k (l0.drop ((ji2) : Int).toNat)).bind fun t146 => ((frame_Sum.f k (l0.take ((ji2) : Int).toNat)).bind fun t151 => (some (t146 == (IntKind.u64.wrap (t151)))))) else (none)) else (none)) = some r := by first | (rw [hji2] at H; exact H) | (simp only [hji2] at H ⊢; exact H)
 have hji2w : (IntKind.i64.wrap ((l0.length : Int) - 4)) = ji2 := (i64_w _).trans hji2
 by_cases c3 : 0 ≤ (ji2)
 ·rw [if_pos c3] at H
  have c3b0 := eq_true c3
  have c3b1 : decide (0 ≤ (ji2)) = true := decide_eq_true c3
  clear c3
  by_cases c4 : (ji2) ≤ (l0.length : Int)
  ·rw [if_pos c4] at H
   have c4b0 := eq_true c4
   have c4b1 : decide ((ji2) ≤ (l0.length : Int)) = true := decide_eq_true c4
   clear c4
   obtain ⟨y142, hy142⟩ : ∃ y_ : List Int, y_ = (l0.drop ((ji2) : Int).toNat) := ⟨_, rfl⟩
   replace H : ((frame_get.f k y142).bind fun t146 => ((frame_Sum.f k (l0.take ((ji2) : Int).toNat)).bind fun t151 => (some (t146 == (IntKind.u64.wrap (t151)))))) = some r := by first | (rw [hy142]; with_reducible exact H) | (have H2_ := (Option.bind_some _ _).symm.trans H; rw [hy142]; with_reducible exact H2_) | (have H2_ := (Option.bind_some _ _).symm.trans H; with_reducible exact H2_) | with_reducible exact H | (rw [hy142]; exact H) | exact H
   have Ny142 := Azz.mk hy142
   clear hy142
   replace H := Option.bind_eq_some_iff.mp H
   obtain ⟨t146, A50, H⟩ := H
   replace H : ((frame_Sum.f k (l0.take ((ji2) : Int).toNat)).bind fun t151 => (some (t146 == (IntKind.u64.wrap (t151))))) = some r := H
   have A5 := Azz.mk A50
   clear A50
   have c6b0 := eq_true (of_decide_eq_true (by first | (with_reducible assumption) | assumption) : 0 ≤ (ji2))
   have c7b0 := eq_true (of_decide_eq_true (by first | (with_reducible assumption) | assumption) : (ji2) ≤ (l0.length : Int))
   obtain ⟨y147, hy147⟩ : ∃ y_ : List Int, y_ = (l0.take ((ji2) : Int).toNat) := ⟨_, rfl⟩
   replace H : ((frame_Sum.f k y147).bind fun t151 => (some (t146 == (IntKind.u64.wrap (t151))))) = some r := by first | (rw [hy147]; with_reducible exact H) | (have H2_ := (Option.bind_some _ _).symm.trans H; rw [hy147]; with_reducible exact H2_) | (have H2_ := (Option.bind_some _ _).symm.trans H; with_reducible exact H2_) | with_reducible exact H | (rw [hy147]; exact H) | exact H
   have Ny147 := Azz.mk hy147
   clear hy147
   replace H := Option.bind_eq_some_iff.mp H
   obtain ⟨t151, A80, H⟩ := H
   replace H : (some (t146 == (IntKind.u64.wrap (t151)))) = some r := H
   have A8 := Azz.mk A80
   clear A80
   obtain rfl := Option.some.inj H
   have q9 : ((ji2) : Int) ≤ ((l0.length : Int) : Int) := of_decide_eq_true (by first | (with_reducible assumption) | assumption)
   obtain ⟨i09, hi09, _, hsz9, _⟩ := info_parts info5
   have hroom9 : l0.length ≤ c0 := HC0.out
   have hC9 : Kd.C (Kd.int .u8) _ A0 l0.length l0 := HR0.out
   have q09 : (0 : Int) ≤ ((ji2) : Int) := of_decide_eq_true (by first | (with_reducible assumption) | assumption)
   have hcut9 := cut_from (P := Try.prog) 26 5 .i64 Try.underlying26 hi09 1 hsz9 A0 l0.length c0 (ji2) q09 q9
   have hr9 := Kd.C_drop (m := ((ji2) : Int).toNat) (c := c0) hC9 (by omega) hroom9
   obtain ⟨A9, hA9⟩ : ∃ A1, A1 = (if c0 = ((ji2) : Int).toNat then A0 else (A0 : Option Addr).map (·.add (((ji2) : Int).toNat * 1))) := ⟨_, rfl⟩
   obtain ⟨c9, hc9⟩ : ∃ c1, c1 = c0 - ((ji2) : Int).toNat := ⟨_, rfl⟩
   have hy9 : y142.length = l0.length - ((ji2) : Int).toNat := (by rw [Ny142.out, List.length_drop] <;> omega)
   rw [show (l0).drop ((ji2) : Int).toNat = y142 from Ny142.out.symm] at hr9
   replace hr9 : Kd.C (Kd.int .u8) _ A9 y142.length y142 := (by rw [hA9]; exact hr9)
   rw [← hy9, ← hA9, ← hc9] at hcut9
   have HR145 := Azz.mk hr9
   have HC145 := Azz.mk (show y142.length ≤ c9 from by rw [hy9, hc9]; exact Nat.sub_le_sub_right hroom9 _)
   clear hr9 hC9 hroom9 hi09 hsz9 hc9
   have KY9 := Azz.mk hy9
   have KA9 := Azz.mk hA9
   clear hy9 hA9
   (try simp only [hji2] at hcut9)
   replace q9 := eq_true q9
   go_enter Try.func30, Try.ntmps30
   go_wp2_with (first | (go_at_call 31; (with_reducible refine (frame_get.calls k _ _ y142 t146 _ ?side1 ?side2 A5.out).mono ?_); (case side1 => repeat (first | exact HR145.out | (with_reducible refine Kd.C_alloc ?_ _) | (with_reducible refine Kd.C_drewN ?_ _) | (with_reducible refine Kd.C_drew ?_))); (case side2 => exact HC145.out); rintro e w' ⟨rfl, ⟨nd, rfl⟩⟩; (try first | exact ⟨rfl, _, World.drewN_drewN _ _ _⟩ | exact ⟨rfl, _, Eq.trans (World.drewN_drewN _ _ _) (congrArg (World.drewN _) (Nat.add_assoc _ _ _))⟩); have q10 : ((ji2) : Int) ≤ ((l0.length : Int) : Int) := of_decide_eq_true (by first | (with_reducible assumption) | assumption); obtain ⟨i010, hi010, _, hsz10, _⟩ := info_parts info5; have hroom10 : l0.length ≤ c0 := HC0.out; have hC10 : Kd.C (Kd.int .u8) _ A0 l0.length l0 := HR0.out; have hcut10 := cut_to (P := Try.prog) 26 5 .i64 Try.underlying26 hi010 A0 l0.length c0 (ji2) (of_decide_eq_true (by first | (with_reducible assumption) | assumption)) q10 hroom10; have hr10 := Kd.C_take (m := ((ji2) : Int).toNat) hC10 (by omega); have hy10 : y147.length = ((ji2) : Int).toNat := (by rw [Ny147.out, List.length_take]; omega); rw [← Ny147.out] at hr10; rw [← hy10] at hcut10; have HR150 := Azz.mk hr10; have HC150 := Azz.mk (show y147.length ≤ c0 from by omega); clear hr10 hC10 hroom10 hi010 hsz10; have KY10 := Azz.mk hy10; clear hy10; (try simp only [hji2] at hcut10); replace q10 := eq_true q10) | (go_at_call 23; (with_reducible refine (frame_Sum.calls k _ _ y147 t151 _ ?side1 ?side2 A8.out).mono ?_); (case side1 => repeat (first | exact HR150.out | (with_reducible refine Kd.C_alloc ?_ _) | (with_reducible refine Kd.C_drewN ?_ _) | (with_reducible refine Kd.C_drew ?_))); (case side2 => exact HC150.out); rintro e w' ⟨rfl, ⟨nd, rfl⟩⟩; (try first | exact ⟨rfl, _, World.drewN_drewN _ _ _⟩ | exact ⟨rfl, _, Eq.trans (World.drewN_drewN _ _ _) (congrArg (World.drewN _) (Nat.add_assoc _ _ _))⟩)))
   repeat (go_quiet (first | (go_at_call 31; (with_reducible refine (frame_get.calls k _ _ y142 t146 _ ?side1 ?side2 A5.out).mono ?_); (case side1 => repeat (first | exact HR145.out | (with_reducible refine Kd.C_alloc ?_ _) | (with_reducible refine Kd.C_drewN ?_ _) | (with_reducible refine Kd.C_drew ?_))); (case side2 => exact HC145.out); rintro e w' ⟨rfl, ⟨nd, rfl⟩⟩; (try first | exact ⟨rfl, _, World.drewN_drewN _ _ _⟩ | exact ⟨rfl, _, Eq.trans (World.drewN_drewN _ _ _) (congrArg (World.drewN _) (Nat.add_assoc _ _ _))⟩); have q10 : ((ji2) : Int) ≤ ((l0.length : Int) : Int) := of_decide_eq_true (by first | (with_reducible assumption) | assumption); obtain ⟨i010, hi010, _, hsz10, _⟩ := info_parts info5; have hroom10 : l0.length ≤ c0 := HC0.out; have hC10 : Kd.C (Kd.int .u8) _ A0 l0.length l0 := HR0.out; have hcut10 := cut_to (P := Try.prog) 26 5 .i64 Try.underlying26 hi010 A0 l0.length c0 (ji2) (of_decide_eq_true (by first | (with_reducible assumption) | assumption)) q10 hroom10; have hr10 := Kd.C_take (m := ((ji2) : Int).toNat) hC10 (by omega); have hy10 : y147.length = ((ji2) : Int).toNat := (by rw [Ny147.out, List.length_take]; omega); rw [← Ny147.out] at hr10; rw [← hy10] at hcut10; have HR150 := Azz.mk hr10; have HC150 := Azz.mk (show y147.length ≤ c0 from by omega); clear hr10 hC10 hroom10 hi010 hsz10; have KY10 := Azz.mk hy10; clear hy10; (try simp only [hji2] at hcut10); replace q10 := eq_true q10) | (go_at_call 23; (with_reducible refine (frame_Sum.calls k _ _ y147 t151 _ ?side1 ?side2 A8.out).mono ?_); (case side1 => repeat (first | exact HR150.out | (with_reducible refine Kd.C_alloc ?_ _) | (with_reducible refine Kd.C_drewN ?_ _) | (with_reducible refine Kd.C_drew ?_))); (case side2 => exact HC150.out); rintro e w' ⟨rfl, ⟨nd, rfl⟩⟩; (try first | exact ⟨rfl, _, World.drewN_drewN _ _ _⟩ | exact ⟨rfl, _, Eq.trans (World.drewN_drewN _ _ _) (congrArg (World.drewN _) (Nat.add_assoc _ _ _))⟩))); try go_wp2_with (first | (go_at_call 31; (with_reducible refine (frame_get.calls k _ _ y142 t146 _ ?side1 ?side2 A5.out).mono ?_); (case side1 => repeat (first | exact HR145.out | (with_reducible refine Kd.C_alloc ?_ _) | (with_reducible refine Kd.C_drewN ?_ _) | (with_reducible refine Kd.C_drew ?_))); (case side2 => exact HC145.out); rintro e w' ⟨rfl, ⟨nd, rfl⟩⟩; (try first | exact ⟨rfl, _, World.drewN_drewN _ _ _⟩ | exact ⟨rfl, _, Eq.trans (World.drewN_drewN _ _ _) (congrArg (World.drewN _) (Nat.add_assoc _ _ _))⟩); have q10 : ((ji2) : Int) ≤ ((l0.length : Int) : Int) := of_decide_eq_true (by first | (with_reducible assumption) | assumption); obtain ⟨i010, hi010, _, hsz10, _⟩ := info_parts info5; have hroom10 : l0.length ≤ c0 := HC0.out; have hC10 : Kd.C (Kd.int .u8) _ A0 l0.length l0 := HR0.out; have hcut10 := cut_to (P := Try.prog) 26 5 .i64 Try.underlying26 hi010 A0 l0.length c0 (ji2) (of_decide_eq_true (by first | (with_reducible assumption) | assumption)) q10 hroom10; have hr10 := Kd.C_take (m := ((ji2) : Int).toNat) hC10 (by omega); have hy10 : y147.length = ((ji2) : Int).toNat := (by rw [Ny147.out, List.length_take]; omega); rw [← Ny147.out] at hr10; rw [← hy10] at hcut10; have HR150 := Azz.mk hr10; have HC150 := Azz.mk (show y147.length ≤ c0 from by omega); clear hr10 hC10 hroom10 hi010 hsz10; have KY10 := Azz.mk hy10; clear hy10; (try simp only [hji2] at hcut10); replace q10 := eq_true q10) | (go_at_call 23; (with_reducible refine (frame_Sum.calls k _ _ y147 t151 _ ?side1 ?side2 A8.out).mono ?_); (case side1 => repeat (first | exact HR150.out | (with_reducible refine Kd.C_alloc ?_ _) | (with_reducible refine Kd.C_drewN ?_ _) | (with_reducible refine Kd.C_drew ?_))); (case side2 => exact HC150.out); rintro e w' ⟨rfl, ⟨nd, rfl⟩⟩; (try first | exact ⟨rfl, _, World.drewN_drewN _ _ _⟩ | exact ⟨rfl, _, Eq.trans (World.drewN_drewN _ _ _) (congrArg (World.drewN _) (Nat.add_assoc _ _ _))⟩))))
   go_ret
   exact ⟨by first | rfl | (simp; done) | (simp only [← hji2] <;> (first | rfl | simp)) | (simp [*]; done), by repeat (first | exact Drawn0.refl _ | apply Drawn0.step)⟩
  ·rw [if_neg c4] at H
   exact absurd H (by simp)
 ·rw [if_neg c3] at H
  exact absurd H (by simp)

end Go.Proofs.Ytgeheedfmdlefaa.PF
end

section
namespace Go.Proofs.Ytgeheedfmdlefaa.PF
open Go.RowKit Go.Proofs.YtgeheedfmdlefaaW.PrintWords Go.Proofs.YtgeheedfmdlefaaW.PrintLast Go.Proofs.YtgeheedfmdlefaaW.PrintMore Go.Proofs.Ytgeheedfmdlefaa.Conv
attribute [local go_sem] max2_int min2_int max_two min_two max_three min_three max_four min_four   -- for this text's walks alone
set_option linter.unusedVariables false
set_option linter.unusedSimpArgs false

/-! ### frame_ReadControl: function 14 -/
mutual
def frame_ReadControl.j0 : Nat → List Int → Bool → Option (Int × Int × Int × Int × Int × Int)
 | 0, _, _ => none
 | k + 1, x0, x7 => if x7 = true then (some (0, 0, 0, 0, 0, 2)) else ((frame_open.f k x0).bind fun t154 => (if t154 = true then (if 12 ≤ (x0.length : Int) then ((frame_get.f k ((x0.take 12).drop 4)).bind fun t159 => (if 24 ≤ (x0.length : Int) then ((frame_get.f k ((x0.take 24).drop 16)).bind fun t164 => (if t159 > 1125899906842624 then (frame_ReadControl.j1 k x0 t159 t164 true) else (if t164 > 1048576 then (frame_ReadControl.j1 k x0 t159 t164 true) else (if 30 ≤ (x0.length : Int) then ((frame_get.f k ((x0.take 30).drop 24)).bind fun t169 => (frame_ReadControl.j1 k x0 t159 t164 (t169 != 0))) else (none))))) else (none))) else (none)) else (some (0, 0, 0, 0, 0, 8))))
def frame_ReadControl.j1 : Nat → List Int → Int → Int → Bool → Option (Int × Int × Int × Int × Int × Int)
 | 0, _, _, _, _ => none
 | k + 1, x0, x4, x5, x39 => if x39 = true then (some (0, 0, 0, 0, 0, 2)) else (if 2 < (x0.length : Int) then (if 3 < (x0.length : Int) then (if 16 ≤ (x0.length : Int) then ((frame_get.f k ((x0.take 16).drop 12)).bind fun t176 => ((frame_rightControl.f (wrap64 (rd x0 2)) (wrap64 (rd x0 3)) (wrap64 (x4)) ((t176) % 4294967296) (wrap64 (x5))).bind fun t178 => (if t178 = true then (some (wrap64 (rd x0 2), wrap64 (rd x0 3), wrap64 (x4), (t176) % 4294967296, wrap64 (x5), 0)) else (some (0, 0, 0, 0, 0, 2))))) else (none)) else (none)) else (none))
end
def frame_ReadControl.f (k : Nat) (l0 : List Int) : Option (Int × Int × Int × Int × Int × Int) := if (l0.length : Int) = 34 then ((frame_Which.f k l0).bind fun t153 => (frame_ReadControl.j0 k l0 (t153 != 1))) else (frame_ReadControl.j0 k l0 true)
theorem frame_ReadControl.mono_l : ∀ k, (∀ y0 y1, LeO (frame_ReadControl.j0 k y0 y1) (frame_ReadControl.j0 (k + 1) y0 y1)) ∧ (∀ y0 y1 y2 y3, LeO (frame_ReadControl.j1 k y0 y1 y2 y3) (frame_ReadControl.j1 (k + 1) y0 y1 y2 y3))
 | 0 => ⟨fun _ _ r h => by simp [frame_ReadControl.j0] at h, fun _ _ _ _ r h => by simp [frame_ReadControl.j1] at h⟩
 | k + 1 => by
  obtain ⟨ih0, ih1⟩ := frame_ReadControl.mono_l k
  refine ⟨?_, ?_⟩
  ·intro y0 y1
   unfold frame_ReadControl.j0
   repeat' first
   | (with_reducible exact ih0 _ _)
   | (with_reducible exact ih1 _ _ _ _)
   | (with_reducible exact frame_Which.mono _ _)
   | (with_reducible exact frame_get.mono _ _)
   | (with_reducible exact frame_open.mono _ _)
   | (with_reducible exact LeO.refl _)
   | (with_reducible exact LeO.none _)
   | (with_reducible refine LeO.ite ?_ ?_)
   | (with_reducible refine LeO.bind ?_ (fun _ => ?_))
   | exact ih0 _ _
   | exact ih1 _ _ _ _
   | exact frame_Which.mono _ _
   | exact frame_get.mono _ _
   | exact frame_open.mono _ _
   | exact LeO.none _
   | refine LeO.ite ?_ ?_
   | refine LeO.bind ?_ (fun _ => ?_)
  ·intro y0 y1 y2 y3
   unfold frame_ReadControl.j1
   repeat' first
   | (with_reducible exact ih0 _ _)
   | (with_reducible exact ih1 _ _ _ _)
   | (with_reducible exact frame_Which.mono _ _)
   | (with_reducible exact frame_get.mono _ _)
   | (with_reducible exact frame_open.mono _ _)
   | (with_reducible exact LeO.refl _)
   | (with_reducible exact LeO.none _)
   | (with_reducible refine LeO.ite ?_ ?_)
   | (with_reducible refine LeO.bind ?_ (fun _ => ?_))
   | exact ih0 _ _
   | exact ih1 _ _ _ _
   | exact frame_Which.mono _ _
   | exact frame_get.mono _ _
   | exact frame_open.mono _ _
   | exact LeO.none _
   | refine LeO.ite ?_ ?_
   | refine LeO.bind ?_ (fun _ => ?_)
theorem frame_ReadControl.mono : ∀ a0 k, LeO (frame_ReadControl.f k a0) (frame_ReadControl.f (k + 1) a0) := by
 intro a0 k
 obtain ⟨ih0, ih1⟩ := frame_ReadControl.mono_l k
 unfold frame_ReadControl.f
 repeat' first
   | (with_reducible exact ih0 _ _)
   | (with_reducible exact ih1 _ _ _ _)
   | (with_reducible exact frame_Which.mono _ _)
   | (with_reducible exact frame_get.mono _ _)
   | (with_reducible exact frame_open.mono _ _)
   | (with_reducible exact LeO.refl _)
   | (with_reducible exact LeO.none _)
   | (with_reducible refine LeO.ite ?_ ?_)
   | (with_reducible refine LeO.bind ?_ (fun _ => ?_))
   | exact ih0 _ _
   | exact ih1 _ _ _ _
   | exact frame_Which.mono _ _
   | exact frame_get.mono _ _
   | exact frame_open.mono _ _
   | exact LeO.none _
   | refine LeO.ite ?_ ?_
   | refine LeO.bind ?_ (fun _ => ?_)
def frame_ReadControl.T5 : Bool × List (List Nat × List Nat) := (true, [([], []), ([0], [0]), ([1], [1]), ([], []), ([3], [3]), ([4, 2], [4]), ([2, 5, 0, 1, 2], [2]), ([5, 6, 0, 1, 2, 3, 4, 5, 6], [5])])
def frame_ReadControl.B5 : List Nat := [0, 1, 3, 0, 8, 31, 63, 127]
theorem frame_ReadControl.tab5 : rtab .any (opsOf Try.f14 5) = frame_ReadControl.T5 := by kernel_rfl
theorem frame_ReadControl.bits5 : waitsOk frame_ReadControl.T5.2 frame_ReadControl.B5 = true := by kernel_rfl
def frame_ReadControl.T8 : Bool × List (List Nat × List Nat) := (true, [([], []), ([0], [0]), ([1], [1]), ([2], [2]), ([], []), ([4], [4]), ([5], [5]), ([6], [6]), ([], []), ([8], [8]), ([], []), ([10], [10]), ([11], [11]), ([12], [12]), ([], []), ([14], [14]), ([3, 7, 9, 13, 15], [3, 7, 9, 13, 15]), ([], []), ([17, 16, 12, 0, 1, 2, 3, 4, 5, 6, 7, 8, 9, 10, 11, 12, 13, 14, 15, 16, 17], [16, 17])])
def frame_ReadControl.B8 : List Nat := [0, 1, 3, 7, 0, 16, 48, 112, 0, 256, 0, 1024, 3072, 7168, 0, 16384, 65535, 0, 262143]
theorem frame_ReadControl.tab8 : rtab .any (opsOf Try.f14 8) = frame_ReadControl.T8 := by kernel_rfl
theorem frame_ReadControl.bits8 : waitsOk frame_ReadControl.T8.2 frame_ReadControl.B8 = true := by kernel_rfl
set_option maxHeartbeats 8000000 in
set_option maxRecDepth 100000 in
theorem frame_ReadControl.calls (k : Nat) (A0 : Option Addr) (c0 : Nat) (l0 : List Int) (r1 : Int) (r2 : Int) (r3 : Int) (r4 : Int) (r5 : Int) (r6 : Int) (w : World) (hr0 : Kd.C (Kd.int .u8) w A0 l0.length l0) (hc0 : l0.length ≤ c0) (h : frame_ReadControl.f k l0 = some (r1, r2, r3, r4, r5, r6)) :
  Calls Try.prog 14 #[.slice A0 l0.length c0] w fun e w' => e = .returned (.tuple #[.agg #[.int .i64 r1, .int .i64 r2, .int .i64 r3, .int .u32 r4, .int .i64 r5], .int .i64 r6]) ∧ Below w.heap.size w w' := by
 have hu24 := Try.underlying24
 have HR0 := Azz.mk hr0
 have HC0 := Azz.mk hc0
 clear hr0 hc0
 have HB := Azz.mk (Below.refl w.heap.size w)
 have H : (if (l0.length : Int) = 34 then ((frame_Which.f k l0).bind fun t153 => (frame_ReadControl.j0 k l0 (t153 != 1))) else (frame_ReadControl.j0 k l0 true)) = some (r1, r2, r3, r4, r5, r6) := h
 clear h
 have HC2 := Azz.mk H
 clear H
 go_enter Try.func14, Try.ntmps14
 go_upto_region 1 with (first | ((with_reducible refine gate_dst (N := 2) rfl ?_); refine box_event ?hg (N := 2) ?hd (cs := #[.int .i64 0, .int .i64 0, .int .i64 0, .int .u32 0, .int .i64 0]) (t := 24) ?hr ?_; (case hd => rfl); (case hg => rfl); (case hr => first | (go_simp; done) | (go_simp; rfl)); intro gb152 hg w3 hbox hb; have n0_ := Azz.mk (below_step (by repeat (first | (with_reducible first | exact HB.out | apply bal | apply pbN | apply bd1) | exact HB.out)) hb); have n1_ := Azz.mk (hbox); have n2_ := Azz.mk ((by rw [hg]; exact (below_size (by repeat (first | (with_reducible first | exact HB.out | apply bal | apply pbN | apply bd1) | exact HB.out))) : w.heap.size ≤ gb152)); have n3_ := Azz.mk ((by rw [hg]; exact (below_size (by repeat (first | (with_reducible first | exact HB.out | apply bal | apply pbN | apply bd1) | exact HB.out))) : w.heap.size ≤ gb152)); clear HB; have HB := n0_; have BK152 := n1_; have GW152 := n2_; have GE152 := n3_; clear n0_ n1_ n2_ n3_; clear hb hbox hg))
 (try simp only [Act.put, List.setIfInBounds_toArray, List.set_cons_zero, List.set_cons_succ])
 go_cut [7] (fun v7 wc => ∃ (kq : Nat) (x7_1 : Bool), v7 = .bool x7_1 ∧ Azz (frame_ReadControl.j0 kq l0 x7_1 = some (r1, r2, r3, r4, r5, r6)) ∧ Azz (kq ≤ k) ∧ Azz (wc.heap[gb152]? = some (.cells #[.int .i64 0, .int .i64 0, .int .i64 0, .int .u32 0, .int .i64 0] 24 (0, 0))) ∧ Azz (Below w.heap.size w wc))
 case first =>
  have H := HC2.out
  clear HC2
  by_cases c4 : (l0.length : Int) = 34
  ·rw [if_pos c4] at H
   have c4b0 : ((l0.length : Int) == 34) = true := beq_iff_eq.mpr c4
   have c4b1 : ((l0.length : Int) != 34) = false := bne_eq_false_iff_eq.mpr c4
   clear c4
   (first | rw [c4b0] | (simp only [i64_w, i32_w]; rw [c4b0]) | skip)
   replace H := Option.bind_eq_some_iff.mp H
   obtain ⟨t153, A50, H⟩ := H
   replace H : (frame_ReadControl.j0 k l0 (t153 != 1)) = some (r1, r2, r3, r4, r5, r6) := H
   have A5 := Azz.mk A50
   clear A50
   have H' := Azz.mk H
   clear H
   go_wp2_with (first | (go_at_call 16; (with_reducible refine (frame_Which.calls k _ _ l0 t153 _ ?side1 ?side2 A5.out).mono ?_); (case side1 => repeat (first | exact (Kd.C_below HR0.out HB.out) | (with_reducible refine Kd.C_alloc ?_ _) | (with_reducible refine Kd.C_drewN ?_ _) | (with_reducible refine Kd.C_drew ?_))); (case side2 => exact HC0.out); rintro e w' ⟨rfl, ⟨nd, rfl⟩⟩))
   go_meet
   case rel => exact ⟨_, ((t153 != 1)), (by first | rfl | (simp; done) | (simp [*]; done)), H', ⟨by first | omega | exact Nat.le_refl _⟩, ⟨by (with_reducible repeat (first | refine kdN ?_ _ | refine kd1 ?_ | refine kal ?_ _)); exact BK152.out⟩, ⟨by repeat (first | (with_reducible first | exact HB.out | apply bal | apply pbN | apply bd1 | refine bst ?_ GE152.out) | exact HB.out)⟩⟩
  ·rw [if_neg c4] at H
   have c4b0 : ((l0.length : Int) == 34) = false := beq_eq_false_iff_ne.mpr c4
   have c4b1 : ((l0.length : Int) != 34) = true := bne_iff_ne.mpr c4
   (first | rw [c4b0] | (simp only [i64_w, i32_w]; rw [c4b0]) | skip)
   have H' := Azz.mk H
   clear H
   go_wp2
   go_meet
   case rel => exact ⟨_, (true), (by first | rfl | (simp; done) | (simp [*]; done)), H', ⟨by first | omega | exact Nat.le_refl _⟩, ⟨by (with_reducible repeat (first | refine kdN ?_ _ | refine kd1 ?_ | refine kal ?_ _)); exact BK152.out⟩, ⟨by repeat (first | (with_reducible first | exact HB.out | apply bal | apply pbN | apply bd1 | refine bst ?_ GE152.out) | exact HB.out)⟩⟩
 case rest =>
  clear HC2
  try clear c1
  try clear p2
  try clear c4
  try clear c4b0
  try clear c4b1
  obtain ⟨kq, x7_1, rfl, HA, HJ1, BK152, HB⟩ := hcut
  cases kq with
  | zero => exact absurd HA.out (by simp [frame_ReadControl.j0])
  | succ kj1 =>
   have H := HA.out
   clear HA
   simp only [frame_ReadControl.j0] at H
   by_cases c6 : x7_1 = true
   ·subst c6
    have H1 : (some (0, 0, 0, 0, 0, 2)) = some (r1, r2, r3, r4, r5, r6) := by rw [if_pos rfl] at H; exact H
    clear H
    have H := H1
    clear H1
    simp only [Option.some.injEq, Prod.mk.injEq] at H
    obtain ⟨rfl, rfl, rfl, rfl, rfl, rfl⟩ := H
    have hcz7_0 : World.cell? _ ⟨gb152, 0, none⟩ = some (.int .i64 0) := (kcl BK152.out 0).trans rfl
    have hcz7_1 : World.cell? _ ⟨gb152, 1, none⟩ = some (.int .i64 0) := (kcl BK152.out 1).trans rfl
    have hcz7_2 : World.cell? _ ⟨gb152, 2, none⟩ = some (.int .i64 0) := (kcl BK152.out 2).trans rfl
    have hcz7_3 : World.cell? _ ⟨gb152, 3, none⟩ = some (.int .u32 0) := (kcl BK152.out 3).trans rfl
    have hcz7_4 : World.cell? _ ⟨gb152, 4, none⟩ = some (.int .i64 0) := (kcl BK152.out 4).trans rfl
    have hfz7_0 := kfz BK152.out 0
    have hfz7_1 := kfz BK152.out 1
    have hfz7_2 := kfz BK152.out 2
    have hfz7_3 := kfz BK152.out 3
    have hfz7_4 := kfz BK152.out 4
    go_wp2
    refine bodyPost_ret (results_ct rfl _ _ gb152 24 #[.int .i64 0, .int .i64 0, .int .i64 0, .int .u32 0, .int .i64 0] (0, 0) _ rfl (by (with_reducible repeat (first | refine kdN ?_ _ | refine kd1 ?_ | refine kal ?_ _)); refine blk_put (cs := #[.int .i64 0, .int .i64 0, .int .i64 0, .int .u32 0, .int .i64 0]) ?_ 4 _ rfl; (with_reducible repeat (first | refine kdN ?_ _ | refine kd1 ?_ | refine kal ?_ _)); refine blk_put (cs := #[.int .i64 0, .int .i64 0, .int .i64 0, .int .u32 0, .int .i64 0]) ?_ 3 _ rfl; (with_reducible repeat (first | refine kdN ?_ _ | refine kd1 ?_ | refine kal ?_ _)); refine blk_put (cs := #[.int .i64 0, .int .i64 0, .int .i64 0, .int .u32 0, .int .i64 0]) ?_ 2 _ rfl; (with_reducible repeat (first | refine kdN ?_ _ | refine kd1 ?_ | refine kal ?_ _)); refine blk_put (cs := #[.int .i64 0, .int .i64 0, .int .i64 0, .int .u32 0, .int .i64 0]) ?_ 1 _ rfl; (with_reducible repeat (first | refine kdN ?_ _ | refine kd1 ?_ | refine kal ?_ _)); refine blk_put (cs := #[.int .i64 0, .int .i64 0, .int .i64 0, .int .u32 0, .int .i64 0]) ?_ 0 _ rfl; (with_reducible repeat (first | refine kdN ?_ _ | refine kd1 ?_ | refine kal ?_ _)); exact BK152.out) Try.underlying24 rfl (by kernel_rfl)) rfl ?_
    exact ⟨by first | rfl | (simp [errW_none, errW_some] <;> rfl) | (simp [*, errW_none, errW_some] <;> rfl), by repeat (first | (with_reducible first | exact HB.out | apply bal | apply pbN | apply bd1 | refine bst ?_ GE152.out) | exact HB.out)⟩
   ·replace c6 := Bool.eq_false_iff.mpr c6
    subst c6
    have H1 : ((frame_open.f kj1 l0).bind fun t154 => (if t154 = true then (if 12 ≤ (l0.length : Int) then ((frame_get.f kj1 ((l0.take 12).drop 4)).bind fun t159 => (if 24 ≤ (l0.length : Int) then ((frame_get.f kj1 ((l0.take 24).drop 16)).bind fun t164 => (if t159 > 1125899906842624 then (frame_ReadControl.j1 kj1 l0 t159 t164 true) else (if t164 > 1048576 then (frame_ReadControl.j1 kj1 l0 t159 t164 true) else (if 30 ≤ (l0.length : Int) then ((frame_get.f kj1 ((l0.take 30).drop 24)).bind fun t169 => (frame_ReadControl.j1 kj1 l0 t159 t164 (t169 != 0))) else (none))))) else (none))) else (none)) else (some (0, 0, 0, 0, 0, 8)))) = some (r1, r2, r3, r4, r5, r6) := by rw [if_neg (show ¬ (false = true) by decide)] at H; exact H
    clear H
    have H := H1
    clear H1
    replace H := Option.bind_eq_some_iff.mp H
    obtain ⟨t154, A80, H⟩ := H
    replace H : (if t154 = true then (if 12 ≤ (l0.length : Int) then ((frame_get.f kj1 ((l0.take 12).drop 4)).bind fun t159 => (if 24 ≤ (l0.length : Int) then ((frame_get.f kj1 ((l0.take 24).drop 16)).bind fun t164 => (if t159 > 1125899906842624 then (frame_ReadControl.j1 kj1 l0 t159 t164 true) else (if t164 > 1048576 then (frame_ReadControl.j1 kj1 l0 t159 t164 true) else (if 30 ≤ (l0.length : Int) then ((frame_get.f kj1 ((l0.take 30).drop 24)).bind fun t169 => (frame_ReadControl.j1 kj1 l0 t159 t164 (t169 != 0))) else (none))))) else (none))) else (none)) else (some (0, 0, 0, 0, 0, 8))) = some (r1, r2, r3, r4, r5, r6) := H
    have A8 := Azz.mk A80
    clear A80
    by_cases c9 : t154 = true
    ·subst c9
     have H1 : (if 12 ≤ (l0.length : Int) then ((frame_get.f kj1 ((l0.take 12).drop 4)).bind fun t159 => (if 24 ≤ (l0.length : Int) then ((frame_get.f kj1 ((l0.take 24).drop 16)).bind fun t164 => (if t159 > 1125899906842624 then (frame_ReadControl.j1 kj1 l0 t159 t164 true) else (if t164 > 1048576 then (frame_ReadControl.j1 kj1 l0 t159 t164 true) else (if 30 ≤ (l0.length : Int) then ((frame_get.f kj1 ((l0.take 30).drop 24)).bind fun t169 => (frame_ReadControl.j1 kj1 l0 t159 t164 (t169 != 0))) else (none))))) else (none))) else (none)) = some (r1, r2, r3, r4, r5, r6) := by rw [if_pos rfl] at H; exact H
     clear H
     have H := H1
     clear H1
     by_cases c10 : 12 ≤ (l0.length : Int)
     ·rw [if_pos c10] at H
      have c10b0 := eq_true c10
      have c10b1 : decide (12 ≤ (l0.length : Int)) = true := decide_eq_true c10
      clear c10
      obtain ⟨y155, hy155⟩ : ∃ y_ : List Int, y_ = ((l0.take 12).drop 4) := ⟨_, rfl⟩
      replace H : ((frame_get.f kj1 y155).bind fun t159 => (if 24 ≤ (l0.length : Int) then ((frame_get.f kj1 ((l0.take 24).drop 16)).bind fun t164 => (if t159 > 1125899906842624 then (frame_ReadControl.j1 kj1 l0 t159 t164 true) else (if t164 > 1048576 then (frame_ReadControl.j1 kj1 l0 t159 t164 true) else (if 30 ≤ (l0.length : Int) then ((frame_get.f kj1 ((l0.take 30).drop 24)).bind fun t169 => (frame_ReadControl.j1 kj1 l0 t159 t164 (t169 != 0))) else (none))))) else (none))) = some (r1, r2, r3, r4, r5, r6) := by first | (rw [hy155]; with_reducible exact H) | (have H2_ := (Option.bind_some _ _).symm.trans H; rw [hy155]; with_reducible exact H2_) | (have H2_ := (Option.bind_some _ _).symm.trans H; with_reducible exact H2_) | with_reducible exact H | (rw [hy155]; exact H) | exact H
      have Ny155 := Azz.mk hy155
      clear hy155
      replace H := Option.bind_eq_some_iff.mp H
      obtain ⟨t159, A110, H⟩ := H
      replace H : (if 24 ≤ (l0.length : Int) then ((frame_get.f kj1 ((l0.take 24).drop 16)).bind fun t164 => (if t159 > 1125899906842624 then (frame_ReadControl.j1 kj1 l0 t159 t164 true) else (if t164 > 1048576 then (frame_ReadControl.j1 kj1 l0 t159 t164 true) else (if 30 ≤ (l0.length : Int) then ((frame_get.f kj1 ((l0.take 30).drop 24)).bind fun t169 => (frame_ReadControl.j1 kj1 l0 t159 t164 (t169 != 0))) else (none))))) else (none)) = some (r1, r2, r3, r4, r5, r6) := H
      have A11 := Azz.mk A110
      clear A110
      by_cases c12 : 24 ≤ (l0.length : Int)
      ·rw [if_pos c12] at H
       have c12b0 := eq_true c12
       have c12b1 : decide (24 ≤ (l0.length : Int)) = true := decide_eq_true c12
       clear c12
       obtain ⟨y160, hy160⟩ : ∃ y_ : List Int, y_ = ((l0.take 24).drop 16) := ⟨_, rfl⟩
       replace H : ((frame_get.f kj1 y160).bind fun t164 => (if t159 > 1125899906842624 then (frame_ReadControl.j1 kj1 l0 t159 t164 true) else (if t164 > 1048576 then (frame_ReadControl.j1 kj1 l0 t159 t164 true) else (if 30 ≤ (l0.length : Int) then ((frame_get.f kj1 ((l0.take 30).drop 24)).bind fun t169 => (frame_ReadControl.j1 kj1 l0 t159 t164 (t169 != 0))) else (none))))) = some (r1, r2, r3, r4, r5, r6) := by first | (rw [hy160]; with_reducible exact H) | (have H2_ := (Option.bind_some _ _).symm.trans H; rw [hy160]; with_reducible exact H2_) | (have H2_ := (Option.bind_some _ _).symm.trans H; with_reducible exact H2_) | with_reducible exact H | (rw [hy160]; exact H) | exact H
       have Ny160 := Azz.mk hy160
       clear hy160
       replace H := Option.bind_eq_some_iff.mp H
       obtain ⟨t164, A130, H⟩ := H
       replace H : (if t159 > 1125899906842624 then (frame_ReadControl.j1 kj1 l0 t159 t164 true) else (if t164 > 1048576 then (frame_ReadControl.j1 kj1 l0 t159 t164 true) else (if 30 ≤ (l0.length : Int) then ((frame_get.f kj1 ((l0.take 30).drop 24)).bind fun t169 => (frame_ReadControl.j1 kj1 l0 t159 t164 (t169 != 0))) else (none)))) = some (r1, r2, r3, r4, r5, r6) := H
       have A13 := Azz.mk A130
       clear A130
       have HC14 := Azz.mk H
       clear H
       try go_wp2_with (first | ((with_reducible refine gate_callee (f := 30) rfl ?_); refine goesL_ (some 19) rfl rfl Try.func30 (by kernel_rfl) rfl #[.slice A0 l0.length c0] rfl (by (try simp only [List.map_toArray, List.map_cons, List.map_nil]); first | done | rfl | (simp only [List.length_drop, List.length_take]; rfl)) ?_; (with_reducible refine (frame_open.calls kj1 _ _ l0 true _ ?side1 ?side2 A8.out).mono ?_); (case side1 => repeat (first | exact (Kd.C_below HR0.out HB.out) | (with_reducible refine Kd.C_alloc ?_ _) | (with_reducible refine Kd.C_drewN ?_ _) | (with_reducible refine Kd.C_drew ?_))); (case side2 => exact HC0.out); rintro e w' ⟨rfl, ⟨nd, rfl⟩⟩; refine ⟨_, rfl, ?_⟩))
       (try (rw [drewN_self wc]; generalize hq_ : World.drewN wc _ = wc; have n0_ : Azz (wc.heap[gb152]? = some (.cells #[.int .i64 0, .int .i64 0, .int .i64 0, .int .u32 0, .int .i64 0] 24 (0, 0))) := ⟨by rw [← hq_]; exact (by (with_reducible repeat (first | refine kdN ?_ _ | refine kd1 ?_ | refine kal ?_ _)); exact BK152.out)⟩; have n1_ : Azz (Below w.heap.size w wc) := ⟨by rw [← hq_]; exact (by repeat (first | (with_reducible first | exact HB.out | apply bal | apply pbN | apply bd1 | refine bst ?_ GE152.out) | exact HB.out))⟩; clear BK152 HB hq_; have BK152 := n0_; have HB := n1_; clear n0_ n1_))
       have n0_ := Azz.mk (kd1 BK152.out)
       have n1_ := Azz.mk (bd1 HB.out)
       clear BK152
       clear HB
       have BK152 := n0_
       have HB := n1_
       clear n0_ n1_
       have q16 : (12 : Int) ≤ ((l0.length : Int) : Int) := of_decide_eq_true (by first | (with_reducible assumption) | assumption)
       obtain ⟨i016, hi016, _, hsz16, _⟩ := info_parts info5
       have hroom16 : l0.length ≤ c0 := HC0.out
       have hC16 : Kd.C (Kd.int .u8) _ A0 l0.length l0 := HR0.out
       have ql16 : (4 : Int) ≤ (12 : Int) := (by omega)
       have hcut16 := cut_mid (P := Try.prog) 26 5 .i64 .i64 Try.underlying26 hi016 1 hsz16 A0 l0.length c0 4 12 (by omega) ql16 q16 hroom16
       have hr16 := Kd.C_mid (lo := (4 : Int).toNat) (hi := (12 : Int).toNat) (c := c0) hC16 (by omega) (by omega) hroom16
       obtain ⟨A16, hA16⟩ : ∃ A1, A1 = (if c0 = (4 : Int).toNat then A0 else (A0 : Option Addr).map (·.add ((4 : Int).toNat * 1))) := ⟨_, rfl⟩
       obtain ⟨c16, hc16⟩ : ∃ c1, c1 = c0 - (4 : Int).toNat := ⟨_, rfl⟩
       have hy16 : y155.length = (12 : Int).toNat - (4 : Int).toNat := (by rw [Ny155.out, List.length_drop, List.length_take] <;> omega)
       rw [show ((l0).take (12 : Int).toNat).drop (4 : Int).toNat = y155 from Ny155.out.symm] at hr16
       replace hr16 : Kd.C (Kd.int .u8) _ A16 y155.length y155 := (by rw [hA16]; exact hr16)
       rw [← hy16, ← hA16, ← hc16] at hcut16
       have HR158 := Azz.mk hr16
       have HC158 := Azz.mk (show y155.length ≤ c16 from by rw [hy16, hc16]; exact Nat.sub_le_sub_right (Nat.le_trans (by omega) hroom16) _)
       clear hr16 hC16 hroom16 hi016 hsz16 hc16
       have KY16 := Azz.mk hy16
       have KA16 := Azz.mk hA16
       clear hy16 hA16
       replace q16 := eq_true q16
       have q17 : (24 : Int) ≤ ((l0.length : Int) : Int) := of_decide_eq_true (by first | (with_reducible assumption) | assumption)
       obtain ⟨i017, hi017, _, hsz17, _⟩ := info_parts info5
       have hroom17 : l0.length ≤ c0 := HC0.out
       have hC17 : Kd.C (Kd.int .u8) _ A0 l0.length l0 := HR0.out
       have ql17 : (16 : Int) ≤ (24 : Int) := (by omega)
       have hcut17 := cut_mid (P := Try.prog) 26 5 .i64 .i64 Try.underlying26 hi017 1 hsz17 A0 l0.length c0 16 24 (by omega) ql17 q17 hroom17
       have hr17 := Kd.C_mid (lo := (16 : Int).toNat) (hi := (24 : Int).toNat) (c := c0) hC17 (by omega) (by omega) hroom17
       obtain ⟨A17, hA17⟩ : ∃ A1, A1 = (if c0 = (16 : Int).toNat then A0 else (A0 : Option Addr).map (·.add ((16 : Int).toNat * 1))) := ⟨_, rfl⟩
       obtain ⟨c17, hc17⟩ : ∃ c1, c1 = c0 - (16 : Int).toNat := ⟨_, rfl⟩
       have hy17 : y160.length = (24 : Int).toNat - (16 : Int).toNat := (by rw [Ny160.out, List.length_drop, List.length_take] <;> omega)
       rw [show ((l0).take (24 : Int).toNat).drop (16 : Int).toNat = y160 from Ny160.out.symm] at hr17
       replace hr17 : Kd.C (Kd.int .u8) _ A17 y160.length y160 := (by rw [hA17]; exact hr17)
       rw [← hy17, ← hA17, ← hc17] at hcut17
       have HR163 := Azz.mk hr17
       have HC163 := Azz.mk (show y160.length ≤ c17 from by rw [hy17, hc17]; exact Nat.sub_le_sub_right (Nat.le_trans (by omega) hroom17) _)
       clear hr17 hC17 hroom17 hi017 hsz17 hc17
       have KY17 := Azz.mk hy17
       have KA17 := Azz.mk hA17
       clear hy17 hA17
       replace q17 := eq_true q17
       refine start_ (n := 8) (S := fun w' => True) (ds := []) #[false, false, false, false, false, false, false, false] (by kernel_rfl) rfl rfl trivial (fun hHeld => ?_); refine with_tabW frame_ReadControl.tab5 frame_ReadControl.bits5 (fun HT_ HW_ => ?_)
       generalize wc.drew = w15 at BK152 HB HR158 HR163 hHeld ⊢
       refine pure_ (i := 0) (N := some 22) (v := ?_) (a' := ?_) #[true, false, false, false, false, false, false, false] rfl rfl (any_of HT_.out (by kernel_rfl)) (fun _ _ _ h => h) (Or.inl ⟨by rfl, ?_⟩) ?_ ?_
       rotate_left
       ·intro w'
        go_simp
        with_reducible rfl
       rotate_left
       ·simp only [Act.put, List.setIfInBounds_toArray, List.set_cons_zero, List.set_cons_succ, i64_w, i32_w]
        rfl
       refine pure_ (i := 1) (N := some 23) (v := ?_) (a' := ?_) #[true, true, false, false, false, false, false, false] rfl rfl (any_of HT_.out (by kernel_rfl)) (fun _ _ _ h => h) (Or.inl ⟨by rfl, ?_⟩) ?_ ?_
       rotate_left
       ·intro w'
        go_simp
        with_reducible rfl
       rotate_left
       ·simp only [Act.put, List.setIfInBounds_toArray, List.set_cons_zero, List.set_cons_succ, i64_w, i32_w]
        rfl
       refine pure_ (i := 3) (N := some 25) (v := ?_) (a' := ?_) #[true, true, false, true, false, false, false, false] rfl rfl (any_of HT_.out (by kernel_rfl)) (fun _ _ _ h => h) (Or.inl ⟨by rfl, ?_⟩) ?_ ?_
       rotate_left
       ·intro w'
        go_simp
        with_reducible rfl
       rotate_left
       ·simp only [Act.put, List.setIfInBounds_toArray, List.set_cons_zero, List.set_cons_succ, i64_w, i32_w]
        rfl
       refine pure_ (i := 4) (N := some 26) (v := ?_) (a' := ?_) #[true, true, false, true, true, false, false, false] rfl rfl (any_of HT_.out (by kernel_rfl)) (fun _ _ _ h => h) (Or.inl ⟨by rfl, ?_⟩) ?_ ?_
       rotate_left
       ·intro w'
        go_simp
        with_reducible rfl
       rotate_left
       ·simp only [Act.put, List.setIfInBounds_toArray, List.set_cons_zero, List.set_cons_succ, i64_w, i32_w]
        rfl
       refine one_ (i := 2) (N := some 24) #[true, true, true, true, true, false, false, false] rfl rfl (one_of HT_.out (by kernel_rfl)) (by decide) (fun K hK => ?_)
       refine goes_ Try.func31 (by kernel_rfl) rfl #[.slice A16 y155.length c16] (by rfl) rfl rfl (by (try simp only [List.map_toArray, List.map_cons, List.map_nil]); first | done | rfl | (simp only [List.length_drop, List.length_take]; rfl)) ?_
       with_reducible refine (frame_get.calls kj1 _ _ y155 t159 _ ?side1 ?side2 A11.out).mono ?_
       (case side1 => repeat (first | exact (Kd.C_below HR158.out HB.out) | (with_reducible refine Kd.C_alloc ?_ _) | (with_reducible refine Kd.C_drewN ?_ _) | (with_reducible refine Kd.C_drew ?_)))
       (case side2 => exact HC158.out)
       rintro e w' ⟨rfl, ⟨nd, rfl⟩⟩
       refine ⟨_, rfl, ?_⟩
       refine hK.out _ _ trivial (fun hHeld => ?_)
       clear hK K
       refine norm_ (a' := ?_) ?_ ?_
       rotate_left
       ·show Act.put _ (some 24) _ = _
        simp only [Act.put, List.setIfInBounds_toArray, List.set_cons_zero, List.set_cons_succ, i64_w, i32_w]
        rfl
       refine one_ (i := 5) (N := some 27) #[true, true, true, true, true, true, false, false] rfl rfl (one_of HT_.out (by kernel_rfl)) (by decide) (fun K hK => ?_)
       refine goes_ Try.func31 (by kernel_rfl) rfl #[.slice A17 y160.length c17] (by rfl) rfl rfl (by (try simp only [List.map_toArray, List.map_cons, List.map_nil]); first | done | rfl | (simp only [List.length_drop, List.length_take]; rfl)) ?_
       with_reducible refine (frame_get.calls kj1 _ _ y160 t164 _ ?side1 ?side2 A13.out).mono ?_
       (case side1 => repeat (first | exact (Kd.C_below HR163.out (by repeat (first | (with_reducible first | exact HB.out | apply bal | apply pbN | apply bd1 | refine bst ?_ GE152.out) | exact HB.out))) | (with_reducible refine Kd.C_alloc ?_ _) | (with_reducible refine Kd.C_drewN ?_ _) | (with_reducible refine Kd.C_drew ?_)))
       (case side2 => exact HC163.out)
       rintro e w' ⟨rfl, ⟨nd, rfl⟩⟩
       refine ⟨_, rfl, ?_⟩
       refine hK.out _ _ trivial (fun hHeld => ?_)
       clear hK K
       refine norm_ (a' := ?_) ?_ ?_
       rotate_left
       ·show Act.put _ (some 27) _ = _
        simp only [Act.put, List.setIfInBounds_toArray, List.set_cons_zero, List.set_cons_succ, i64_w, i32_w]
        rfl
       refine pure_ (i := 6) (N := some 4) (v := ?_) (a' := ?_) #[true, true, true, true, true, true, true, false] rfl rfl (any_of HT_.out (by kernel_rfl)) (fun _ _ _ h => h) (Or.inl ⟨by rfl, ?_⟩) ?_ ?_
       rotate_left
       ·intro w'
        go_simp
        with_reducible rfl
       rotate_left
       ·simp only [Act.put, List.setIfInBounds_toArray, List.set_cons_zero, List.set_cons_succ, i64_w, i32_w]
        rfl
       refine pure_ (i := 7) (N := some 5) (v := ?_) (a' := ?_) #[true, true, true, true, true, true, true, true] rfl rfl (any_of HT_.out (by kernel_rfl)) (fun _ _ _ h => h) (Or.inl ⟨by rfl, ?_⟩) ?_ ?_
       rotate_left
       ·intro w'
        go_simp
        with_reducible rfl
       rotate_left
       ·simp only [Act.put, List.setIfInBounds_toArray, List.set_cons_zero, List.set_cons_succ, i64_w, i32_w]
        rfl
       refine done_ (done_of HT_.out (by kernel_rfl)) ?_
       go_upto_region 6 with (fail)
       go_cut [39] (fun v39 wc => ∃ (kq : Nat) (x39_13 : Bool), v39 = .bool x39_13 ∧ Azz (frame_ReadControl.j1 kq l0 t159 t164 x39_13 = some (r1, r2, r3, r4, r5, r6)) ∧ Azz (kq ≤ kj1) ∧ Azz (wc.heap[gb152]? = some (.cells #[.int .i64 0, .int .i64 0, .int .i64 0, .int .u32 0, .int .i64 0] 24 (0, 0))) ∧ Azz (Below w.heap.size w wc))
       case first =>
        have H := HC14.out
        clear HC14
        by_cases c18 : t159 > 1125899906842624
        ·rw [if_pos c18] at H
         have c18b0 : decide (1125899906842624 < t159) = true := decide_eq_true c18
         clear c18
         (first | rw [c18b0] | (simp only [i64_w, i32_w]; rw [c18b0]) | skip)
         have H' := Azz.mk H
         clear H
         go_wp2
         go_meet
         case rel => exact ⟨_, (true), (by first | rfl | (simp; done) | (simp [*]; done)), H', ⟨by have := HJ1.out; first | omega | exact Nat.le_refl _⟩, ⟨by (with_reducible repeat (first | refine kdN ?_ _ | refine kd1 ?_ | refine kal ?_ _)); exact BK152.out⟩, ⟨by repeat (first | (with_reducible first | exact HB.out | apply bal | apply pbN | apply bd1 | refine bst ?_ GE152.out) | exact HB.out)⟩⟩
        ·rw [if_neg c18] at H
         have c18b0 : decide (1125899906842624 < t159) = false := decide_eq_false c18
         clear c18
         (first | rw [c18b0] | (simp only [i64_w, i32_w]; rw [c18b0]) | skip)
         by_cases c19 : t164 > 1048576
         ·rw [if_pos c19] at H
          have c19b0 : decide (1048576 < t164) = true := decide_eq_true c19
          clear c19
          have H' := Azz.mk H
          clear H
          go_wp2
          go_meet
          case rel => exact ⟨_, (true), (by first | rfl | (simp; done) | (simp [*]; done)), H', ⟨by have := HJ1.out; first | omega | exact Nat.le_refl _⟩, ⟨by (with_reducible repeat (first | refine kdN ?_ _ | refine kd1 ?_ | refine kal ?_ _)); exact BK152.out⟩, ⟨by repeat (first | (with_reducible first | exact HB.out | apply bal | apply pbN | apply bd1 | refine bst ?_ GE152.out) | exact HB.out)⟩⟩
         ·rw [if_neg c19] at H
          have c19b0 : decide (1048576 < t164) = false := decide_eq_false c19
          clear c19
          by_cases c20 : 30 ≤ (l0.length : Int)
          ·rw [if_pos c20] at H
           have c20b0 := eq_true c20
           have c20b1 : decide (30 ≤ (l0.length : Int)) = true := decide_eq_true c20
           clear c20
           obtain ⟨y165, hy165⟩ : ∃ y_ : List Int, y_ = ((l0.take 30).drop 24) := ⟨_, rfl⟩
           replace H : ((frame_get.f kj1 y165).bind fun t169 => (frame_ReadControl.j1 kj1 l0 t159 t164 (t169 != 0))) = some (r1, r2, r3, r4, r5, r6) := by first | (rw [hy165]; with_reducible exact H) | (have H2_ := (Option.bind_some _ _).symm.trans H; rw [hy165]; with_reducible exact H2_) | (have H2_ := (Option.bind_some _ _).symm.trans H; with_reducible exact H2_) | with_reducible exact H | (rw [hy165]; exact H) | exact H
           have Ny165 := Azz.mk hy165
           clear hy165
           replace H := Option.bind_eq_some_iff.mp H
           obtain ⟨t169, A210, H⟩ := H
           replace H : (frame_ReadControl.j1 kj1 l0 t159 t164 (t169 != 0)) = some (r1, r2, r3, r4, r5, r6) := H
           have A21 := Azz.mk A210
           clear A210
           have H' := Azz.mk H
           clear H
           have q22 : (30 : Int) ≤ ((l0.length : Int) : Int) := of_decide_eq_true (by first | (with_reducible assumption) | assumption)
           obtain ⟨i022, hi022, _, hsz22, _⟩ := info_parts info5
           have hroom22 : l0.length ≤ c0 := HC0.out
           have hC22 : Kd.C (Kd.int .u8) _ A0 l0.length l0 := HR0.out
           have ql22 : (24 : Int) ≤ (30 : Int) := (by omega)
           have hcut22 := cut_mid (P := Try.prog) 26 5 .i64 .i64 Try.underlying26 hi022 1 hsz22 A0 l0.length c0 24 30 (by omega) ql22 q22 hroom22
           have hr22 := Kd.C_mid (lo := (24 : Int).toNat) (hi := (30 : Int).toNat) (c := c0) hC22 (by omega) (by omega) hroom22
           obtain ⟨A22, hA22⟩ : ∃ A1, A1 = (if c0 = (24 : Int).toNat then A0 else (A0 : Option Addr).map (·.add ((24 : Int).toNat * 1))) := ⟨_, rfl⟩
           obtain ⟨c22, hc22⟩ : ∃ c1, c1 = c0 - (24 : Int).toNat := ⟨_, rfl⟩
           have hy22 : y165.length = (30 : Int).toNat - (24 : Int).toNat := (by rw [Ny165.out, List.length_drop, List.length_take] <;> omega)
           rw [show ((l0).take (30 : Int).toNat).drop (24 : Int).toNat = y165 from Ny165.out.symm] at hr22
           replace hr22 : Kd.C (Kd.int .u8) _ A22 y165.length y165 := (by rw [hA22]; exact hr22)
           rw [← hy22, ← hA22, ← hc22] at hcut22
           have HR168 := Azz.mk hr22
           have HC168 := Azz.mk (show y165.length ≤ c22 from by rw [hy22, hc22]; exact Nat.sub_le_sub_right (Nat.le_trans (by omega) hroom22) _)
           clear hr22 hC22 hroom22 hi022 hsz22 hc22
           have KY22 := Azz.mk hy22
           have KA22 := Azz.mk hA22
           clear hy22 hA22
           replace q22 := eq_true q22
           go_wp2_with (first | (go_at_call 31; (with_reducible refine (frame_get.calls kj1 _ _ y165 t169 _ ?side1 ?side2 A21.out).mono ?_); (case side1 => repeat (first | exact (Kd.C_below HR168.out HB.out) | (with_reducible refine Kd.C_alloc ?_ _) | (with_reducible refine Kd.C_drewN ?_ _) | (with_reducible refine Kd.C_drew ?_))); (case side2 => exact HC168.out); rintro e w' ⟨rfl, ⟨nd, rfl⟩⟩))
           go_meet
           case rel => exact ⟨_, ((t169 != 0)), (by first | rfl | (simp; done) | (simp [*]; done)), H', ⟨by have := HJ1.out; first | omega | exact Nat.le_refl _⟩, ⟨by (with_reducible repeat (first | refine kdN ?_ _ | refine kd1 ?_ | refine kal ?_ _)); exact BK152.out⟩, ⟨by repeat (first | (with_reducible first | exact HB.out | apply bal | apply pbN | apply bd1 | refine bst ?_ GE152.out) | exact HB.out)⟩⟩
          ·rw [if_neg c20] at H
           exact absurd H (by simp)
       case rest =>
        clear HC14
        try clear c1
        try clear q1
        try clear c2
        try clear p2
        try clear q2
        try clear c3
        try clear c4
        try clear c4b0
        try clear c4b1
        try clear c6
        try clear c9
        try clear c10
        try clear c10b0
        try clear c10b1
        try clear c12
        try clear c12b0
        try clear c12b1
        try clear c14
        try clear c16
        try clear q16
        try clear c17
        try clear q17
        try clear c18
        try clear c18b0
        try clear c19
        try clear c19b0
        try clear c20
        try clear c20b0
        try clear c20b1
        try clear c22
        try clear q22
        try clear hcz7_0
        try clear hcz7_1
        try clear hcz7_2
        try clear hcz7_3
        try clear hcz7_4
        try clear hfz7_0
        try clear hfz7_1
        try clear hfz7_2
        try clear hfz7_3
        try clear hfz7_4
        try clear p2
        try clear q16
        try clear q17
        try clear q22
        obtain ⟨kq, x39_13, rfl, HA, HJ13, BK152, HB⟩ := hcut
        cases kq with
        | zero => exact absurd HA.out (by simp [frame_ReadControl.j1])
        | succ kj13 =>
         have H := HA.out
         clear HA
         simp only [frame_ReadControl.j1] at H
         by_cases c23 : x39_13 = true
         ·subst c23
          have H1 : (some (0, 0, 0, 0, 0, 2)) = some (r1, r2, r3, r4, r5, r6) := by rw [if_pos rfl] at H; exact H
          clear H
          have H := H1
          clear H1
          simp only [Option.some.injEq, Prod.mk.injEq] at H
          obtain ⟨rfl, rfl, rfl, rfl, rfl, rfl⟩ := H
          have hcz24_0 : World.cell? _ ⟨gb152, 0, none⟩ = some (.int .i64 0) := (kcl BK152.out 0).trans rfl
          have hcz24_1 : World.cell? _ ⟨gb152, 1, none⟩ = some (.int .i64 0) := (kcl BK152.out 1).trans rfl
          have hcz24_2 : World.cell? _ ⟨gb152, 2, none⟩ = some (.int .i64 0) := (kcl BK152.out 2).trans rfl
          have hcz24_3 : World.cell? _ ⟨gb152, 3, none⟩ = some (.int .u32 0) := (kcl BK152.out 3).trans rfl
          have hcz24_4 : World.cell? _ ⟨gb152, 4, none⟩ = some (.int .i64 0) := (kcl BK152.out 4).trans rfl
          have hfz24_0 := kfz BK152.out 0
          have hfz24_1 := kfz BK152.out 1
          have hfz24_2 := kfz BK152.out 2
          have hfz24_3 := kfz BK152.out 3
          have hfz24_4 := kfz BK152.out 4
          go_wp2
          refine bodyPost_ret (results_ct rfl _ _ gb152 24 #[.int .i64 0, .int .i64 0, .int .i64 0, .int .u32 0, .int .i64 0] (0, 0) _ rfl (by (with_reducible repeat (first | refine kdN ?_ _ | refine kd1 ?_ | refine kal ?_ _)); refine blk_put (cs := #[.int .i64 0, .int .i64 0, .int .i64 0, .int .u32 0, .int .i64 0]) ?_ 4 _ rfl; (with_reducible repeat (first | refine kdN ?_ _ | refine kd1 ?_ | refine kal ?_ _)); refine blk_put (cs := #[.int .i64 0, .int .i64 0, .int .i64 0, .int .u32 0, .int .i64 0]) ?_ 3 _ rfl; (with_reducible repeat (first | refine kdN ?_ _ | refine kd1 ?_ | refine kal ?_ _)); refine blk_put (cs := #[.int .i64 0, .int .i64 0, .int .i64 0, .int .u32 0, .int .i64 0]) ?_ 2 _ rfl; (with_reducible repeat (first | refine kdN ?_ _ | refine kd1 ?_ | refine kal ?_ _)); refine blk_put (cs := #[.int .i64 0, .int .i64 0, .int .i64 0, .int .u32 0, .int .i64 0]) ?_ 1 _ rfl; (with_reducible repeat (first | refine kdN ?_ _ | refine kd1 ?_ | refine kal ?_ _)); refine blk_put (cs := #[.int .i64 0, .int .i64 0, .int .i64 0, .int .u32 0, .int .i64 0]) ?_ 0 _ rfl; (with_reducible repeat (first | refine kdN ?_ _ | refine kd1 ?_ | refine kal ?_ _)); exact BK152.out) Try.underlying24 rfl (by kernel_rfl)) rfl ?_
          exact ⟨by first | rfl | (simp [errW_none, errW_some] <;> rfl) | (simp [*, errW_none, errW_some] <;> rfl), by repeat (first | (with_reducible first | exact HB.out | apply bal | apply pbN | apply bd1 | refine bst ?_ GE152.out) | exact HB.out)⟩
         ·replace c23 := Bool.eq_false_iff.mpr c23
          subst c23
          have H1 : (if 2 < (l0.length : Int) then (if 3 < (l0.length : Int) then (if 16 ≤ (l0.length : Int) then ((frame_get.f kj13 ((l0.take 16).drop 12)).bind fun t176 => ((frame_rightControl.f (wrap64 (rd l0 2)) (wrap64 (rd l0 3)) (wrap64 (t159)) ((t176) % 4294967296) (wrap64 (t164))).bind fun t178 => (if t178 = true then (some (wrap64 (rd l0 2), wrap64 (rd l0 3), wrap64 (t159), (t176) % 4294967296, wrap64 (t164), 0)) else (some (0, 0, 0, 0, 0, 2))))) else (none)) else (none)) else (none)) = some (r1, r2, r3, r4, r5, r6) := by rw [if_neg (show ¬ (false = true) by decide)] at H; exact H
          clear H
          have H := H1
          clear H1
          by_cases c25 : 2 < (l0.length : Int)
          ·rw [if_pos c25] at H
           have c25b0 : decide (2 < (l0.length : Int)) = true := decide_eq_true c25
           have c25b1 : decide (2 < l0.length) = true := decide_eq_true (by omega)
           clear c25
           by_cases c26 : 3 < (l0.length : Int)
           ·rw [if_pos c26] at H
            have c26b0 : decide (3 < (l0.length : Int)) = true := decide_eq_true c26
            have c26b1 : decide (3 < l0.length) = true := decide_eq_true (by omega)
            clear c26
            by_cases c27 : 16 ≤ (l0.length : Int)
            ·rw [if_pos c27] at H
             have c27b0 := eq_true c27
             have c27b1 : decide (16 ≤ (l0.length : Int)) = true := decide_eq_true c27
             clear c27
             obtain ⟨y172, hy172⟩ : ∃ y_ : List Int, y_ = ((l0.take 16).drop 12) := ⟨_, rfl⟩
             replace H : ((frame_get.f kj13 y172).bind fun t176 => ((frame_rightControl.f (wrap64 (rd l0 2)) (wrap64 (rd l0 3)) (wrap64 (t159)) ((t176) % 4294967296) (wrap64 (t164))).bind fun t178 => (if t178 = true then (some (wrap64 (rd l0 2), wrap64 (rd l0 3), wrap64 (t159), (t176) % 4294967296, wrap64 (t164), 0)) else (some (0, 0, 0, 0, 0, 2))))) = some (r1, r2, r3, r4, r5, r6) := by first | (rw [hy172]; with_reducible exact H) | (have H2_ := (Option.bind_some _ _).symm.trans H; rw [hy172]; with_reducible exact H2_) | (have H2_ := (Option.bind_some _ _).symm.trans H; with_reducible exact H2_) | with_reducible exact H | (rw [hy172]; exact H) | exact H
             have Ny172 := Azz.mk hy172
             clear hy172
             replace H := Option.bind_eq_some_iff.mp H
             obtain ⟨t176, A280, H⟩ := H
             replace H : ((frame_rightControl.f (wrap64 (rd l0 2)) (wrap64 (rd l0 3)) (wrap64 (t159)) ((t176) % 4294967296) (wrap64 (t164))).bind fun t178 => (if t178 = true then (some (wrap64 (rd l0 2), wrap64 (rd l0 3), wrap64 (t159), (t176) % 4294967296, wrap64 (t164), 0)) else (some (0, 0, 0, 0, 0, 2)))) = some (r1, r2, r3, r4, r5, r6) := H
             have A28 := Azz.mk A280
             clear A280
             replace H := Option.bind_eq_some_iff.mp H
             obtain ⟨t178, A290, H⟩ := H
             replace H : (if t178 = true then (some (wrap64 (rd l0 2), wrap64 (rd l0 3), wrap64 (t159), (t176) % 4294967296, wrap64 (t164), 0)) else (some (0, 0, 0, 0, 0, 2))) = some (r1, r2, r3, r4, r5, r6) := H
             have A29 := Azz.mk A290
             clear A290
             by_cases c30 : t178 = true
             ·subst c30
              have H1 : (some (wrap64 (rd l0 2), wrap64 (rd l0 3), wrap64 (t159), (t176) % 4294967296, wrap64 (t164), 0)) = some (r1, r2, r3, r4, r5, r6) := by rw [if_pos rfl] at H; exact H
              clear H
              have H := H1
              clear H1
              simp only [Option.some.injEq, Prod.mk.injEq] at H
              obtain ⟨rfl, rfl, rfl, rfl, rfl, rfl⟩ := H
              try go_wp2
              have n0_ := Azz.mk (kd1 BK152.out)
              have n1_ := Azz.mk (bd1 HB.out)
              clear BK152
              clear HB
              have BK152 := n0_
              have HB := n1_
              clear n0_ n1_
              have p170 : 0 ≤ (2 : Int) := (by omega)
              have q170 : 2 < (l0.length : Int) := of_decide_eq_true (by first | (with_reducible assumption) | assumption)
              obtain ⟨ad170, e170, hx170_0⟩ := Kd.at_int HR0.out 2 p170 q170
              have hw170_0 := hx170_0
              (try rw [show ((2 : Int)).toNat = 2 from rfl] at hw170_0)
              (try rw [show 2 * 1 = 2 from rfl] at hw170_0)
              (try simp only [Nat.reduceMul, Nat.reduceEqDiff, Go.Addr.add, ↓reduceIte] at hw170_0)
              cases e170
              (try simp only [show (2 : Int).toNat = 2 from rfl, Nat.reduceMul, Nat.reduceEqDiff, Go.Addr.add, ↓reduceIte] at hx170_0)
              have qi170 : (2 < l0.length) = True := eq_true (by omega)
              (try rw [show ((2 : Int)).toNat = 2 from rfl] at hx170_0)
              replace hx170_0 := (HB.out.cell (World.block_lt_of_cell? w _ hx170_0)).trans hx170_0
              replace p170 := eq_true p170
              replace q170 := eq_true q170
              have p171 : 0 ≤ (3 : Int) := (by omega)
              have q171 : 3 < (l0.length : Int) := of_decide_eq_true (by first | (with_reducible assumption) | assumption)
              obtain ⟨ad171, e171, hx171_0⟩ := Kd.at_int HR0.out 3 p171 q171
              have hw171_0 := hx171_0
              (try rw [show ((3 : Int)).toNat = 3 from rfl] at hw171_0)
              (try rw [show 3 * 1 = 3 from rfl] at hw171_0)
              (try simp only [Nat.reduceMul, Nat.reduceEqDiff, Go.Addr.add, ↓reduceIte] at hw171_0)
              obtain rfl : ad170 = ad171 := (by injection e171)
              (try simp only [show (3 : Int).toNat = 3 from rfl, Nat.reduceMul, Nat.reduceEqDiff, Go.Addr.add, ↓reduceIte] at hx171_0)
              have qi171 : (3 < l0.length) = True := eq_true (by omega)
              (try rw [show ((3 : Int)).toNat = 3 from rfl] at hx171_0)
              replace hx171_0 := (HB.out.cell (World.block_lt_of_cell? w _ hx171_0)).trans hx171_0
              replace p171 := eq_true p171
              replace q171 := eq_true q171
              have q32 : (16 : Int) ≤ ((l0.length : Int) : Int) := of_decide_eq_true (by first | (with_reducible assumption) | assumption)
              obtain ⟨i032, hi032, _, hsz32, _⟩ := info_parts info5
              have hroom32 : l0.length ≤ c0 := HC0.out
              have hC32 : Kd.C (Kd.int .u8) _ (some ad170) l0.length l0 := HR0.out
              have ql32 : (12 : Int) ≤ (16 : Int) := (by omega)
              have hcut32 := cut_mid (P := Try.prog) 26 5 .i64 .i64 Try.underlying26 hi032 1 hsz32 (some ad170) l0.length c0 12 16 (by omega) ql32 q32 hroom32
              have hr32 := Kd.C_mid (lo := (12 : Int).toNat) (hi := (16 : Int).toNat) (c := c0) hC32 (by omega) (by omega) hroom32
              obtain ⟨A32, hA32⟩ : ∃ A1, A1 = (if c0 = (12 : Int).toNat then (some ad170) else ((some ad170) : Option Addr).map (·.add ((12 : Int).toNat * 1))) := ⟨_, rfl⟩
              obtain ⟨c32, hc32⟩ : ∃ c1, c1 = c0 - (12 : Int).toNat := ⟨_, rfl⟩
              have hy32 : y172.length = (16 : Int).toNat - (12 : Int).toNat := (by rw [Ny172.out, List.length_drop, List.length_take] <;> omega)
              rw [show ((l0).take (16 : Int).toNat).drop (12 : Int).toNat = y172 from Ny172.out.symm] at hr32
              replace hr32 : Kd.C (Kd.int .u8) _ A32 y172.length y172 := (by rw [hA32]; exact hr32)
              rw [← hy32, ← hA32, ← hc32] at hcut32
              have HR175 := Azz.mk hr32
              have HC175 := Azz.mk (show y172.length ≤ c32 from by rw [hy32, hc32]; exact Nat.sub_le_sub_right (Nat.le_trans (by omega) hroom32) _)
              clear hr32 hC32 hroom32 hi032 hsz32 hc32
              have KY32 := Azz.mk hy32
              have KA32 := Azz.mk hA32
              clear hy32 hA32
              replace q32 := eq_true q32
              refine start_ (n := 19) (S := fun w' => w'.cell? ⟨ad170.block, ad170.off + 2, none⟩ = some (.int .u8 (rd l0 2)) ∧ w'.cell? ⟨ad170.block, ad170.off + 3, none⟩ = some (.int .u8 (rd l0 3))) (ds := []) #[false, false, false, false, false, false, false, false, false, false, false, false, false, false, false, false, false, false, false] (by kernel_rfl) rfl rfl ⟨((HB.out.cell (World.block_lt_of_cell? w _ hw170_0)).trans hw170_0), ((HB.out.cell (World.block_lt_of_cell? w _ hw171_0)).trans hw171_0)⟩ (fun hHeld => ?_); refine with_tabW frame_ReadControl.tab8 frame_ReadControl.bits8 (fun HT_ HW_ => ?_)
              generalize wc.drew = w31 at BK152 HB HR175 hx170_0 hx171_0 hHeld ⊢
              refine pure_ (i := 0) (N := some 41) (v := ?_) (a' := ?_) #[true, false, false, false, false, false, false, false, false, false, false, false, false, false, false, false, false, false, false] rfl rfl (any_of HT_.out (by kernel_rfl)) (fun _ _ _ h => h) (Or.inl ⟨by rfl, ?_⟩) ?_ ?_
              rotate_left
              ·intro w'
               go_simp
               with_reducible rfl
              rotate_left
              ·simp only [Act.put, List.setIfInBounds_toArray, List.set_cons_zero, List.set_cons_succ, i64_w, i32_w]
               rfl
              refine pure_ (i := 1) (N := some 42) (v := ?_) (a' := ?_) #[true, true, false, false, false, false, false, false, false, false, false, false, false, false, false, false, false, false, false] rfl rfl (any_of HT_.out (by kernel_rfl)) (fun _ _ _ h => h) (Or.inl ⟨by rfl, ?_⟩) ?_ ?_
              rotate_left
              ·intro w'
               go_simp
               with_reducible rfl
              rotate_left
              ·simp only [Act.put, List.setIfInBounds_toArray, List.set_cons_zero, List.set_cons_succ, i64_w, i32_w]
               rfl
              refine pure_ (i := 4) (N := some 45) (v := ?_) (a' := ?_) #[true, true, false, false, true, false, false, false, false, false, false, false, false, false, false, false, false, false, false] rfl rfl (any_of HT_.out (by kernel_rfl)) (fun _ _ _ h => h) (Or.inl ⟨by rfl, ?_⟩) ?_ ?_
              rotate_left
              ·intro w'
               go_simp
               with_reducible rfl
              rotate_left
              ·simp only [Act.put, List.setIfInBounds_toArray, List.set_cons_zero, List.set_cons_succ, i64_w, i32_w]
               rfl
              refine pure_ (i := 5) (N := some 46) (v := ?_) (a' := ?_) #[true, true, false, false, true, true, false, false, false, false, false, false, false, false, false, false, false, false, false] rfl rfl (any_of HT_.out (by kernel_rfl)) (fun _ _ _ h => h) (Or.inl ⟨by rfl, ?_⟩) ?_ ?_
              rotate_left
              ·intro w'
               go_simp
               with_reducible rfl
              rotate_left
              ·simp only [Act.put, List.setIfInBounds_toArray, List.set_cons_zero, List.set_cons_succ, i64_w, i32_w]
               rfl
              refine pure_ (i := 8) (N := some 49) (v := ?_) (a' := ?_) #[true, true, false, false, true, true, false, false, true, false, false, false, false, false, false, false, false, false, false] rfl rfl (any_of HT_.out (by kernel_rfl)) (fun _ _ _ h => h) (Or.inl ⟨by rfl, ?_⟩) ?_ ?_
              rotate_left
              ·intro w'
               go_simp
               with_reducible rfl
              rotate_left
              ·simp only [Act.put, List.setIfInBounds_toArray, List.set_cons_zero, List.set_cons_succ, i64_w, i32_w]
               rfl
              refine pure_ (i := 9) (N := some 50) (v := ?_) (a' := ?_) #[true, true, false, false, true, true, false, false, true, true, false, false, false, false, false, false, false, false, false] rfl rfl (any_of HT_.out (by kernel_rfl)) (fun _ _ _ h => h) (Or.inl ⟨by rfl, ?_⟩) ?_ ?_
              rotate_left
              ·intro w'
               go_simp
               with_reducible rfl
              rotate_left
              ·simp only [Act.put, List.setIfInBounds_toArray, List.set_cons_zero, List.set_cons_succ, i64_w, i32_w]
               rfl
              refine pure_ (i := 10) (N := some 51) (v := ?_) (a' := ?_) #[true, true, false, false, true, true, false, false, true, true, true, false, false, false, false, false, false, false, false] rfl rfl (any_of HT_.out (by kernel_rfl)) (fun _ _ _ h => h) (Or.inl ⟨by rfl, ?_⟩) ?_ ?_
              rotate_left
              ·intro w'
               go_simp
               with_reducible rfl
              rotate_left
              ·simp only [Act.put, List.setIfInBounds_toArray, List.set_cons_zero, List.set_cons_succ, i64_w, i32_w]
               rfl
              refine pure_ (i := 11) (N := some 52) (v := ?_) (a' := ?_) #[true, true, false, false, true, true, false, false, true, true, true, true, false, false, false, false, false, false, false] rfl rfl (any_of HT_.out (by kernel_rfl)) (fun _ _ _ h => h) (Or.inl ⟨by rfl, ?_⟩) ?_ ?_
              rotate_left
              ·intro w'
               go_simp
               with_reducible rfl
              rotate_left
              ·simp only [Act.put, List.setIfInBounds_toArray, List.set_cons_zero, List.set_cons_succ, i64_w, i32_w]
               rfl
              refine pure_ (i := 14) (N := some 55) (v := ?_) (a' := ?_) #[true, true, false, false, true, true, false, false, true, true, true, true, false, false, true, false, false, false, false] rfl rfl (any_of HT_.out (by kernel_rfl)) (fun _ _ _ h => h) (Or.inl ⟨by rfl, ?_⟩) ?_ ?_
              rotate_left
              ·intro w'
               go_simp
               with_reducible rfl
              rotate_left
              ·simp only [Act.put, List.setIfInBounds_toArray, List.set_cons_zero, List.set_cons_succ, i64_w, i32_w]
               rfl
              refine pure_ (i := 15) (N := some 56) (v := ?_) (a' := ?_) #[true, true, false, false, true, true, false, false, true, true, true, true, false, false, true, true, false, false, false] rfl rfl (any_of HT_.out (by kernel_rfl)) (fun _ _ _ h => h) (Or.inl ⟨by rfl, ?_⟩) ?_ ?_
              rotate_left
              ·intro w'
               go_simp
               with_reducible rfl
              rotate_left
              ·simp only [Act.put, List.setIfInBounds_toArray, List.set_cons_zero, List.set_cons_succ, i64_w, i32_w]
               rfl
              refine take_ (i := 2) (N := some 43) (v := ?_) (a' := ?_) #[true, true, true, false, true, true, false, false, true, true, true, true, false, false, true, true, false, false, false] rfl rfl (take_ofW HT_.out HW_.out (by kernel_rfl)) (fun _ _ _ h => h) (Or.inl ⟨by rfl, ?_⟩) hHeld ?_ ?_
              rotate_left
              ·rintro w' ⟨s0, s1⟩
               go_simp
               with_reducible rfl
              rotate_left
              ·simp only [Act.put, List.setIfInBounds_toArray, List.set_cons_zero, List.set_cons_succ, i64_w, i32_w]
               rfl
              refine pure_ (i := 3) (N := some 44) (v := ?_) (a' := ?_) #[true, true, true, true, true, true, false, false, true, true, true, true, false, false, true, true, false, false, false] rfl rfl (any_of HT_.out (by kernel_rfl)) (fun _ _ _ h => h) (Or.inl ⟨by rfl, ?_⟩) ?_ ?_
              rotate_left
              ·intro w'
               go_simp
               with_reducible rfl
              rotate_left
              ·simp only [Act.put, List.setIfInBounds_toArray, List.set_cons_zero, List.set_cons_succ, i64_w, i32_w]
               rfl
              refine take_ (i := 6) (N := some 47) (v := ?_) (a' := ?_) #[true, true, true, true, true, true, true, false, true, true, true, true, false, false, true, true, false, false, false] rfl rfl (take_ofW HT_.out HW_.out (by kernel_rfl)) (fun _ _ _ h => h) (Or.inl ⟨by rfl, ?_⟩) hHeld ?_ ?_
              rotate_left
              ·rintro w' ⟨s0, s1⟩
               go_simp
               with_reducible rfl
              rotate_left
              ·simp only [Act.put, List.setIfInBounds_toArray, List.set_cons_zero, List.set_cons_succ, i64_w, i32_w]
               rfl
              refine pure_ (i := 7) (N := some 48) (v := ?_) (a' := ?_) #[true, true, true, true, true, true, true, true, true, true, true, true, false, false, true, true, false, false, false] rfl rfl (any_of HT_.out (by kernel_rfl)) (fun _ _ _ h => h) (Or.inl ⟨by rfl, ?_⟩) ?_ ?_
              rotate_left
              ·intro w'
               go_simp
               with_reducible rfl
              rotate_left
              ·simp only [Act.put, List.setIfInBounds_toArray, List.set_cons_zero, List.set_cons_succ, i64_w, i32_w]
               rfl
              refine join_ (σ := Nat) 1 #[true, true, true, true, true, true, true, true, true, true, true, true, true, true, true, true, true, true, false] (fun s_ => [(53, .int .u64 t176), (6, .pointer (some ⟨s_, 0, none⟩)), (54, .int .u32 ((t176) % 4294967296)), (57, .agg #[.int .i64 (wrap64 (rd l0 2)), .int .i64 (wrap64 (rd l0 3)), .int .i64 (wrap64 (t159)), .int .u32 ((t176) % 4294967296), .int .i64 (wrap64 (t164))])]) (fun s_ w' => (w'.cell? ⟨ad170.block, ad170.off + 2, none⟩ = some (.int .u8 (rd l0 2)) ∧ w'.cell? ⟨ad170.block, ad170.off + 3, none⟩ = some (.int .u8 (rd l0 3))) ∧ (w'.heap[gb152]? = some (.cells #[.int .i64 0, .int .i64 0, .int .i64 0, .int .u32 0, .int .i64 0] 24 (0, 0))) ∧ (w'.heap[s_]? = some (.cells #[.int .i64 0, .int .i64 0, .int .i64 0, .int .u32 0, .int .i64 0] 24 (0, 0))) ∧ (w.heap.size ≤ s_) ∧ (w.heap.size ≤ s_) ∧ (gb152 ≠ s_) ∧ (s_ ≠ gb152) ∧ (Below w.heap.size w w')) ?_ ?_
              rotate_left
              ·intro hCont
               refine two_ (i := 12) (j := 17) (Ni := some 53) (Nj := some 6) #[true, true, true, true, true, true, true, true, true, true, true, true, true, false, true, true, false, false, false] #[true, true, true, true, true, true, true, true, true, true, true, true, false, false, true, true, false, true, false] rfl rfl rfl rfl (two_of HT_.out (by kernel_rfl)) (by decide) (by decide) (fun K hK => ?_) (fun K hK => ?_)
               ·skip
                refine goes_ Try.func31 (by kernel_rfl) rfl #[.slice A32 y172.length c32] (by rfl) rfl rfl (by (try simp only [List.map_toArray, List.map_cons, List.map_nil]); first | done | rfl | (simp only [List.length_drop, List.length_take]; rfl)) ?_
                with_reducible refine (frame_get.calls kj13 _ _ y172 t176 _ ?side1 ?side2 A28.out).mono ?_
                (case side1 => repeat (first | exact (Kd.C_below HR175.out HB.out) | (with_reducible refine Kd.C_alloc ?_ _) | (with_reducible refine Kd.C_drewN ?_ _) | (with_reducible refine Kd.C_drew ?_)))
                (case side2 => exact HC175.out)
                rintro e w' ⟨rfl, ⟨nd, rfl⟩⟩
                refine ⟨_, rfl, ?_⟩
                refine hK.out _ _ ⟨((HB.out.cell (World.block_lt_of_cell? w _ hw170_0)).trans hw170_0), ((HB.out.cell (World.block_lt_of_cell? w _ hw171_0)).trans hw171_0)⟩ (fun hHeld => ?_)
                clear hK K
                refine norm_ (a' := ?_) ?_ ?_
                rotate_left
                ·show Act.put _ (some 53) _ = _
                 simp only [Act.put, List.setIfInBounds_toArray, List.set_cons_zero, List.set_cons_succ, i64_w, i32_w]
                 rfl
                refine pure_ (i := 13) (N := some 54) (v := ?_) (a' := ?_) #[true, true, true, true, true, true, true, true, true, true, true, true, true, true, true, true, false, false, false] rfl rfl (any_of HT_.out (by kernel_rfl)) (fun _ _ _ h => h) (Or.inl ⟨by rfl, ?_⟩) ?_ ?_
                rotate_left
                ·intro w'
                 go_simp
                 with_reducible rfl
                rotate_left
                ·simp only [Act.put, List.setIfInBounds_toArray, List.set_cons_zero, List.set_cons_succ, i64_w, i32_w]
                 rfl
                refine pure_ (i := 16) (N := some 57) (v := ?_) (a' := ?_) #[true, true, true, true, true, true, true, true, true, true, true, true, true, true, true, true, true, false, false] rfl rfl (any_of HT_.out (by kernel_rfl)) (fun _ _ _ h => h) (Or.inl ⟨by rfl, ?_⟩) ?_ ?_
                rotate_left
                ·intro w'
                 go_simp
                 with_reducible rfl
                rotate_left
                ·simp only [Act.put, List.setIfInBounds_toArray, List.set_cons_zero, List.set_cons_succ, i64_w, i32_w]
                 rfl
                refine one_ (i := 17) (N := some 6) #[true, true, true, true, true, true, true, true, true, true, true, true, true, true, true, true, true, true, false] rfl rfl (one_of HT_.out (by kernel_rfl)) (by decide) (fun K hK => ?_)
                refine box_step ?hg (N := 6) ?hd (cs := #[.int .i64 0, .int .i64 0, .int .i64 0, .int .u32 0, .int .i64 0]) (t := 24) ?hr ?_; (case hd => rfl); (case hg => rfl); (case hr => first | (go_simp; done) | (go_simp; rfl))
                intro gb177 hg w33 hbox hb
                have n0_ := Azz.mk (blk_below (g := gb152) (o := .cells #[.int .i64 0, .int .i64 0, .int .i64 0, .int .u32 0, .int .i64 0] 24 (0, 0)) (by (with_reducible repeat (first | refine kdN ?_ _ | refine kd1 ?_ | refine kal ?_ _)); exact BK152.out) hb)
                have n1_ := Azz.mk (below_step (by repeat (first | (with_reducible first | exact HB.out | apply bal | apply pbN | apply bd1 | refine bst ?_ GE152.out) | exact HB.out)) hb)
                have n2_ := Azz.mk (hbox)
                have n3_ := Azz.mk ((by rw [hg]; exact (below_size (by repeat (first | (with_reducible first | exact HB.out | apply bal | apply pbN | apply bd1 | refine bst ?_ GE152.out) | exact HB.out))) : w.heap.size ≤ gb177))
                have n4_ := Azz.mk ((by rw [hg]; exact (below_size (by repeat (first | (with_reducible first | exact HB.out | apply bal | apply pbN | apply bd1 | refine bst ?_ GE152.out) | exact HB.out))) : w.heap.size ≤ gb177))
                have n5_ := Azz.mk ((by rw [hg]; exact Nat.ne_of_lt (blk_lt (g := gb152) (o := .cells #[.int .i64 0, .int .i64 0, .int .i64 0, .int .u32 0, .int .i64 0] 24 (0, 0)) (by (with_reducible repeat (first | refine kdN ?_ _ | refine kd1 ?_ | refine kal ?_ _)); exact BK152.out)) : gb152 ≠ gb177))
                have n6_ := Azz.mk ((by rw [hg]; exact Nat.ne_of_gt (blk_lt (g := gb152) (o := .cells #[.int .i64 0, .int .i64 0, .int .i64 0, .int .u32 0, .int .i64 0] 24 (0, 0)) (by (with_reducible repeat (first | refine kdN ?_ _ | refine kd1 ?_ | refine kal ?_ _)); exact BK152.out)) : gb177 ≠ gb152))
                clear BK152
                clear HB
                have BK152 := n0_
                have HB := n1_
                have BK177 := n2_
                have GW177 := n3_
                have GE177 := n4_
                have NB152_177 := n5_
                have NB177_152 := n6_
                clear n0_ n1_ n2_ n3_ n4_ n5_ n6_
                clear hb hbox hg
                refine hK.out _ _ ⟨((HB.out.cell (World.block_lt_of_cell? w _ hw170_0)).trans hw170_0), ((HB.out.cell (World.block_lt_of_cell? w _ hw171_0)).trans hw171_0)⟩ (fun hHeld => ?_)
                clear hK K
                refine norm_ (a' := ?_) ?_ ?_
                rotate_left
                ·show Act.put _ (some 6) _ = _
                 simp only [Act.put, List.setIfInBounds_toArray, List.set_cons_zero, List.set_cons_succ, i64_w, i32_w]
                 rfl
                exact norm_ (by first | (simp only [putAll, Act.put, List.setIfInBounds_toArray, List.set_cons_zero, List.set_cons_succ]; done) | (simp only [putAll, Act.put, List.setIfInBounds_toArray, List.set_cons_zero, List.set_cons_succ, IntKind.wrap_u32, IntKind.wrap_u8]; done)) (hCont (gb177) _ ⟨hHeld, (by (with_reducible repeat (first | refine kdN ?_ _ | refine kd1 ?_ | refine kal ?_ _)); exact BK152.out), (by (with_reducible repeat (first | refine kdN ?_ _ | refine kd1 ?_ | refine kal ?_ _)); exact BK177.out), GW177.out, GE177.out, NB152_177.out, NB177_152.out, (by repeat (first | (with_reducible first | exact HB.out | apply bal | apply pbN | apply bd1 | refine bst ?_ GE152.out | refine bst ?_ GE177.out) | exact HB.out))⟩)
               ·skip
                refine box_step ?hg (N := 6) ?hd (cs := #[.int .i64 0, .int .i64 0, .int .i64 0, .int .u32 0, .int .i64 0]) (t := 24) ?hr ?_; (case hd => rfl); (case hg => rfl); (case hr => first | (go_simp; done) | (go_simp; rfl))
                intro gb177 hg w33 hbox hb
                have n0_ := Azz.mk (blk_below (g := gb152) (o := .cells #[.int .i64 0, .int .i64 0, .int .i64 0, .int .u32 0, .int .i64 0] 24 (0, 0)) (by (with_reducible repeat (first | refine kdN ?_ _ | refine kd1 ?_ | refine kal ?_ _)); exact BK152.out) hb)
                have n1_ := Azz.mk (below_step (by repeat (first | (with_reducible first | exact HB.out | apply bal | apply pbN | apply bd1 | refine bst ?_ GE152.out) | exact HB.out)) hb)
                have n2_ := Azz.mk (hbox)
                have n3_ := Azz.mk ((by rw [hg]; exact (below_size (by repeat (first | (with_reducible first | exact HB.out | apply bal | apply pbN | apply bd1 | refine bst ?_ GE152.out) | exact HB.out))) : w.heap.size ≤ gb177))
                have n4_ := Azz.mk ((by rw [hg]; exact (below_size (by repeat (first | (with_reducible first | exact HB.out | apply bal | apply pbN | apply bd1 | refine bst ?_ GE152.out) | exact HB.out))) : w.heap.size ≤ gb177))
                have n5_ := Azz.mk ((by rw [hg]; exact Nat.ne_of_lt (blk_lt (g := gb152) (o := .cells #[.int .i64 0, .int .i64 0, .int .i64 0, .int .u32 0, .int .i64 0] 24 (0, 0)) (by (with_reducible repeat (first | refine kdN ?_ _ | refine kd1 ?_ | refine kal ?_ _)); exact BK152.out)) : gb152 ≠ gb177))
                have n6_ := Azz.mk ((by rw [hg]; exact Nat.ne_of_gt (blk_lt (g := gb152) (o := .cells #[.int .i64 0, .int .i64 0, .int .i64 0, .int .u32 0, .int .i64 0] 24 (0, 0)) (by (with_reducible repeat (first | refine kdN ?_ _ | refine kd1 ?_ | refine kal ?_ _)); exact BK152.out)) : gb177 ≠ gb152))
                clear BK152
                clear HB
                have BK152 := n0_
                have HB := n1_
                have BK177 := n2_
                have GW177 := n3_
                have GE177 := n4_
                have NB152_177 := n5_
                have NB177_152 := n6_
                clear n0_ n1_ n2_ n3_ n4_ n5_ n6_
                clear hb hbox hg
                refine hK.out _ _ ⟨((HB.out.cell (World.block_lt_of_cell? w _ hw170_0)).trans hw170_0), ((HB.out.cell (World.block_lt_of_cell? w _ hw171_0)).trans hw171_0)⟩ (fun hHeld => ?_)
                clear hK K
                refine norm_ (a' := ?_) ?_ ?_
                rotate_left
                ·show Act.put _ (some 6) _ = _
                 simp only [Act.put, List.setIfInBounds_toArray, List.set_cons_zero, List.set_cons_succ, i64_w, i32_w]
                 rfl
                refine one_ (i := 12) (N := some 53) #[true, true, true, true, true, true, true, true, true, true, true, true, true, false, true, true, false, true, false] rfl rfl (one_of HT_.out (by kernel_rfl)) (by decide) (fun K hK => ?_)
                refine goes_ Try.func31 (by kernel_rfl) rfl #[.slice A32 y172.length c32] (by rfl) rfl rfl (by (try simp only [List.map_toArray, List.map_cons, List.map_nil]); first | done | rfl | (simp only [List.length_drop, List.length_take]; rfl)) ?_
                with_reducible refine (frame_get.calls kj13 _ _ y172 t176 _ ?side1 ?side2 A28.out).mono ?_
                (case side1 => repeat (first | exact (Kd.C_below HR175.out HB.out) | (with_reducible refine Kd.C_alloc ?_ _) | (with_reducible refine Kd.C_drewN ?_ _) | (with_reducible refine Kd.C_drew ?_)))
                (case side2 => exact HC175.out)
                rintro e w' ⟨rfl, ⟨nd, rfl⟩⟩
                refine ⟨_, rfl, ?_⟩
                refine hK.out _ _ ⟨((HB.out.cell (World.block_lt_of_cell? w _ hw170_0)).trans hw170_0), ((HB.out.cell (World.block_lt_of_cell? w _ hw171_0)).trans hw171_0)⟩ (fun hHeld => ?_)
                clear hK K
                refine norm_ (a' := ?_) ?_ ?_
                rotate_left
                ·show Act.put _ (some 53) _ = _
                 simp only [Act.put, List.setIfInBounds_toArray, List.set_cons_zero, List.set_cons_succ, i64_w, i32_w]
                 rfl
                refine pure_ (i := 13) (N := some 54) (v := ?_) (a' := ?_) #[true, true, true, true, true, true, true, true, true, true, true, true, true, true, true, true, false, true, false] rfl rfl (any_of HT_.out (by kernel_rfl)) (fun _ _ _ h => h) (Or.inl ⟨by rfl, ?_⟩) ?_ ?_
                rotate_left
                ·intro w'
                 go_simp
                 with_reducible rfl
                rotate_left
                ·simp only [Act.put, List.setIfInBounds_toArray, List.set_cons_zero, List.set_cons_succ, i64_w, i32_w]
                 rfl
                refine pure_ (i := 16) (N := some 57) (v := ?_) (a' := ?_) #[true, true, true, true, true, true, true, true, true, true, true, true, true, true, true, true, true, true, false] rfl rfl (any_of HT_.out (by kernel_rfl)) (fun _ _ _ h => h) (Or.inl ⟨by rfl, ?_⟩) ?_ ?_
                rotate_left
                ·intro w'
                 go_simp
                 with_reducible rfl
                rotate_left
                ·simp only [Act.put, List.setIfInBounds_toArray, List.set_cons_zero, List.set_cons_succ, i64_w, i32_w]
                 rfl
                exact norm_ (by first | (simp only [putAll, Act.put, List.setIfInBounds_toArray, List.set_cons_zero, List.set_cons_succ]; done) | (simp only [putAll, Act.put, List.setIfInBounds_toArray, List.set_cons_zero, List.set_cons_succ, IntKind.wrap_u32, IntKind.wrap_u8]; done)) (hCont (gb177) _ ⟨hHeld, (by (with_reducible repeat (first | refine kdN ?_ _ | refine kd1 ?_ | refine kal ?_ _)); exact BK152.out), (by (with_reducible repeat (first | refine kdN ?_ _ | refine kd1 ?_ | refine kal ?_ _)); exact BK177.out), GW177.out, GE177.out, NB152_177.out, NB177_152.out, (by repeat (first | (with_reducible first | exact HB.out | apply bal | apply pbN | apply bd1 | refine bst ?_ GE152.out | refine bst ?_ GE177.out) | exact HB.out))⟩)
              rintro gb177 w34 ⟨hS_, h0_, h1_, h2_, h3_, h4_, h5_, h6_⟩
              have n0_ : Azz (w34.heap[gb152]? = some (.cells #[.int .i64 0, .int .i64 0, .int .i64 0, .int .u32 0, .int .i64 0] 24 (0, 0))) := ⟨h0_⟩
              have n1_ : Azz (w34.heap[gb177]? = some (.cells #[.int .i64 0, .int .i64 0, .int .i64 0, .int .u32 0, .int .i64 0] 24 (0, 0))) := ⟨h1_⟩
              have n2_ : Azz (w.heap.size ≤ gb177) := ⟨h2_⟩
              have n3_ : Azz (w.heap.size ≤ gb177) := ⟨h3_⟩
              have n4_ : Azz (gb152 ≠ gb177) := ⟨h4_⟩
              have n5_ : Azz (gb177 ≠ gb152) := ⟨h5_⟩
              have n6_ : Azz (Below w.heap.size w w34) := ⟨h6_⟩
              clear BK152
              clear HB
              clear h0_ h1_ h2_ h3_ h4_ h5_ h6_
              have BK152 := n0_
              have BK177 := n1_
              have GW177 := n2_
              have GE177 := n3_
              have NB152_177 := n4_
              have NB177_152 := n5_
              have HB := n6_
              clear n0_ n1_ n2_ n3_ n4_ n5_ n6_
              have hHeld : w34.cell? ⟨ad170.block, ad170.off + 2, none⟩ = some (.int .u8 (rd l0 2)) ∧ w34.cell? ⟨ad170.block, ad170.off + 3, none⟩ = some (.int .u8 (rd l0 3)) := hS_
              refine norm_ (a' := ?_) ?_ ?_
              rotate_left
              ·simp only [putAll, Act.put, List.setIfInBounds_toArray, List.set_cons_zero, List.set_cons_succ]
               rfl
              refine one_ (i := 18) (N := none) #[true, true, true, true, true, true, true, true, true, true, true, true, true, true, true, true, true, true, true] rfl rfl (one_of HT_.out (by kernel_rfl)) (by decide) (fun K hK => ?_)
              have hs35 : World.cell? _ ⟨gb177, 0, none⟩ = some (.int .i64 0) := (kcl BK177.out 0).trans rfl
              have hfs35 := kfz BK177.out 0
              have hns35_0 := NB152_177.out
              have hms35_0 := NB177_152.out
              have hs36 : World.cell? _ ⟨gb177, 1, none⟩ = some (.int .i64 0) := (kcl BK177.out 1).trans rfl
              have hfs36 := kfz BK177.out 1
              have hns36_0 := NB152_177.out
              have hms36_0 := NB177_152.out
              have hs37 : World.cell? _ ⟨gb177, 2, none⟩ = some (.int .i64 0) := (kcl BK177.out 2).trans rfl
              have hfs37 := kfz BK177.out 2
              have hns37_0 := NB152_177.out
              have hms37_0 := NB177_152.out
              have hs38 : World.cell? _ ⟨gb177, 3, none⟩ = some (.int .u32 0) := (kcl BK177.out 3).trans rfl
              have hfs38 := kfz BK177.out 3
              have hns38_0 := NB152_177.out
              have hms38_0 := NB177_152.out
              have hs39 : World.cell? _ ⟨gb177, 4, none⟩ = some (.int .i64 0) := (kcl BK177.out 4).trans rfl
              have hfs39 := kfz BK177.out 4
              have hns39_0 := NB152_177.out
              have hms39_0 := NB177_152.out
              refine skip_ (w1 := ?_) (by rfl) rfl ?_ ?_
              rotate_left
              ·go_simp
               rfl
              refine hK.out _ _ ⟨((cell_far (p := ⟨gb177, _, none⟩) (cell_ne hw170_0 GW177.out) _).trans (((cell_far (p := ⟨gb177, _, none⟩) (cell_ne hw170_0 GW177.out) _).trans (((cell_far (p := ⟨gb177, _, none⟩) (cell_ne hw170_0 GW177.out) _).trans (((cell_far (p := ⟨gb177, _, none⟩) (cell_ne hw170_0 GW177.out) _).trans (((cell_far (p := ⟨gb177, _, none⟩) (cell_ne hw170_0 GW177.out) _).trans (hHeld.1)))))))))), ((cell_far (p := ⟨gb177, _, none⟩) (cell_ne hw171_0 GW177.out) _).trans (((cell_far (p := ⟨gb177, _, none⟩) (cell_ne hw171_0 GW177.out) _).trans (((cell_far (p := ⟨gb177, _, none⟩) (cell_ne hw171_0 GW177.out) _).trans (((cell_far (p := ⟨gb177, _, none⟩) (cell_ne hw171_0 GW177.out) _).trans (((cell_far (p := ⟨gb177, _, none⟩) (cell_ne hw171_0 GW177.out) _).trans (hHeld.2))))))))))⟩ (fun hHeld => ?_)
              clear hK K
              refine done_ (done_of HT_.out (by kernel_rfl)) ?_
              have hnb40 := NB177_152.out
              have hnc40 := NB152_177.out
              have hcz41_0 : World.cell? _ ⟨gb177, 0, none⟩ = some (.int .i64 0) := (kcl BK177.out 0).trans rfl
              have hcz41_1 : World.cell? _ ⟨gb177, 1, none⟩ = some (.int .i64 0) := (kcl BK177.out 1).trans rfl
              have hcz41_2 : World.cell? _ ⟨gb177, 2, none⟩ = some (.int .i64 0) := (kcl BK177.out 2).trans rfl
              have hcz41_3 : World.cell? _ ⟨gb177, 3, none⟩ = some (.int .u32 0) := (kcl BK177.out 3).trans rfl
              have hcz41_4 : World.cell? _ ⟨gb177, 4, none⟩ = some (.int .i64 0) := (kcl BK177.out 4).trans rfl
              have hfz41_0 := kfz BK177.out 0
              have hfz41_1 := kfz BK177.out 1
              have hfz41_2 := kfz BK177.out 2
              have hfz41_3 := kfz BK177.out 3
              have hfz41_4 := kfz BK177.out 4
              try go_wp2_with (first | ((with_reducible refine gate_callee (f := 27) rfl ?_); refine goesL_ (some 59) rfl rfl Try.func27 (by kernel_rfl) rfl #[.agg #[.int .i64 (wrap64 (rd l0 2)), .int .i64 (wrap64 (rd l0 3)), .int .i64 (wrap64 (t159)), .int .u32 ((t176) % 4294967296), .int .i64 (wrap64 (t164))]] rfl (by (try simp only [List.map_toArray, List.map_cons, List.map_nil]); first | done | rfl | (simp only [List.length_drop, List.length_take]; rfl)) ?_; (with_reducible refine (frame_rightControl.calls (wrap64 (rd l0 2)) (wrap64 (rd l0 3)) (wrap64 (t159)) ((t176) % 4294967296) (wrap64 (t164)) true _ A29.out).mono ?_); rintro e w42 ⟨rfl, hb⟩; refine ⟨_, rfl, ?_⟩; have n0_ := Azz.mk (blk_below (g := gb152) (o := .cells #[.int .i64 0, .int .i64 0, .int .i64 0, .int .u32 0, .int .i64 0] 24 (0, 0)) (by (with_reducible repeat (first | refine kdN ?_ _ | refine kd1 ?_ | refine kal ?_ _)); refine blk_far ?_ NB152_177.out _; (with_reducible repeat (first | refine kdN ?_ _ | refine kd1 ?_ | refine kal ?_ _)); refine blk_far ?_ NB152_177.out _; (with_reducible repeat (first | refine kdN ?_ _ | refine kd1 ?_ | refine kal ?_ _)); refine blk_far ?_ NB152_177.out _; (with_reducible repeat (first | refine kdN ?_ _ | refine kd1 ?_ | refine kal ?_ _)); refine blk_far ?_ NB152_177.out _; (with_reducible repeat (first | refine kdN ?_ _ | refine kd1 ?_ | refine kal ?_ _)); refine blk_far ?_ NB152_177.out _; (with_reducible repeat (first | refine kdN ?_ _ | refine kd1 ?_ | refine kal ?_ _)); exact BK152.out) hb); have n1_ := Azz.mk (blk_below (g := gb177) (o := .cells #[.int .i64 (wrap64 (rd l0 2)), .int .i64 (wrap64 (rd l0 3)), .int .i64 (wrap64 (t159)), .int .u32 ((t176) % 4294967296), .int .i64 (wrap64 (t164))] 24 (0, 0)) (by (with_reducible repeat (first | refine kdN ?_ _ | refine kd1 ?_ | refine kal ?_ _)); refine blk_put (cs := #[.int .i64 (wrap64 (rd l0 2)), .int .i64 (wrap64 (rd l0 3)), .int .i64 (wrap64 (t159)), .int .u32 ((t176) % 4294967296), .int .i64 0]) ?_ 4 _ rfl; (with_reducible repeat (first | refine kdN ?_ _ | refine kd1 ?_ | refine kal ?_ _)); refine blk_put (cs := #[.int .i64 (wrap64 (rd l0 2)), .int .i64 (wrap64 (rd l0 3)), .int .i64 (wrap64 (t159)), .int .u32 0, .int .i64 0]) ?_ 3 _ rfl; (with_reducible repeat (first | refine kdN ?_ _ | refine kd1 ?_ | refine kal ?_ _)); refine blk_put (cs := #[.int .i64 (wrap64 (rd l0 2)), .int .i64 (wrap64 (rd l0 3)), .int .i64 0, .int .u32 0, .int .i64 0]) ?_ 2 _ rfl; (with_reducible repeat (first | refine kdN ?_ _ | refine kd1 ?_ | refine kal ?_ _)); refine blk_put (cs := #[.int .i64 (wrap64 (rd l0 2)), .int .i64 0, .int .i64 0, .int .u32 0, .int .i64 0]) ?_ 1 _ rfl; (with_reducible repeat (first | refine kdN ?_ _ | refine kd1 ?_ | refine kal ?_ _)); refine blk_put (cs := #[.int .i64 0, .int .i64 0, .int .i64 0, .int .u32 0, .int .i64 0]) ?_ 0 _ rfl; (with_reducible repeat (first | refine kdN ?_ _ | refine kd1 ?_ | refine kal ?_ _)); exact BK177.out) hb); have n2_ := Azz.mk (below_step (by repeat (first | (with_reducible first | exact HB.out | apply bal | apply pbN | apply bd1 | refine bst ?_ GE152.out | refine bst ?_ GE177.out) | exact HB.out)) hb); clear BK152; clear BK177; clear HB; have BK152 := n0_; have BK177 := n1_; have HB := n2_; clear n0_ n1_ n2_; (try clear hb); (try clear hb2); (try clear hk); (try clear hi); have hcz43_0 : World.cell? _ ⟨gb177, 0, none⟩ = some (.int .i64 (wrap64 (rd l0 2))) := (kcl BK177.out 0).trans rfl; have hcz43_1 : World.cell? _ ⟨gb177, 1, none⟩ = some (.int .i64 (wrap64 (rd l0 3))) := (kcl BK177.out 1).trans rfl; have hcz43_2 : World.cell? _ ⟨gb177, 2, none⟩ = some (.int .i64 (wrap64 (t159))) := (kcl BK177.out 2).trans rfl; have hcz43_3 : World.cell? _ ⟨gb177, 3, none⟩ = some (.int .u32 ((t176) % 4294967296)) := (kcl BK177.out 3).trans rfl; have hcz43_4 : World.cell? _ ⟨gb177, 4, none⟩ = some (.int .i64 (wrap64 (t164))) := (kcl BK177.out 4).trans rfl; have hfz43_0 := kfz BK177.out 0; have hfz43_1 := kfz BK177.out 1; have hfz43_2 := kfz BK177.out 2; have hfz43_3 := kfz BK177.out 3; have hfz43_4 := kfz BK177.out 4; have hcz44_0 : World.cell? _ ⟨gb152, 0, none⟩ = some (.int .i64 0) := (kcl BK152.out 0).trans rfl; have hcz44_1 : World.cell? _ ⟨gb152, 1, none⟩ = some (.int .i64 0) := (kcl BK152.out 1).trans rfl; have hcz44_2 : World.cell? _ ⟨gb152, 2, none⟩ = some (.int .i64 0) := (kcl BK152.out 2).trans rfl; have hcz44_3 : World.cell? _ ⟨gb152, 3, none⟩ = some (.int .u32 0) := (kcl BK152.out 3).trans rfl; have hcz44_4 : World.cell? _ ⟨gb152, 4, none⟩ = some (.int .i64 0) := (kcl BK152.out 4).trans rfl; have hfz44_0 := kfz BK152.out 0; have hfz44_1 := kfz BK152.out 1; have hfz44_2 := kfz BK152.out 2; have hfz44_3 := kfz BK152.out 3; have hfz44_4 := kfz BK152.out 4))
              refine bodyPost_ret (results_ct rfl _ _ gb152 24 #[.int .i64 (wrap64 (rd l0 2)), .int .i64 (wrap64 (rd l0 3)), .int .i64 (wrap64 (t159)), .int .u32 ((t176) % 4294967296), .int .i64 (wrap64 (t164))] (0, 0) _ rfl (by (with_reducible repeat (first | refine kdN ?_ _ | refine kd1 ?_ | refine kal ?_ _)); refine blk_put (cs := #[.int .i64 (wrap64 (rd l0 2)), .int .i64 (wrap64 (rd l0 3)), .int .i64 (wrap64 (t159)), .int .u32 ((t176) % 4294967296), .int .i64 0]) ?_ 4 _ rfl; (with_reducible repeat (first | refine kdN ?_ _ | refine kd1 ?_ | refine kal ?_ _)); refine blk_put (cs := #[.int .i64 (wrap64 (rd l0 2)), .int .i64 (wrap64 (rd l0 3)), .int .i64 (wrap64 (t159)), .int .u32 0, .int .i64 0]) ?_ 3 _ rfl; (with_reducible repeat (first | refine kdN ?_ _ | refine kd1 ?_ | refine kal ?_ _)); refine blk_put (cs := #[.int .i64 (wrap64 (rd l0 2)), .int .i64 (wrap64 (rd l0 3)), .int .i64 0, .int .u32 0, .int .i64 0]) ?_ 2 _ rfl; (with_reducible repeat (first | refine kdN ?_ _ | refine kd1 ?_ | refine kal ?_ _)); refine blk_put (cs := #[.int .i64 (wrap64 (rd l0 2)), .int .i64 0, .int .i64 0, .int .u32 0, .int .i64 0]) ?_ 1 _ rfl; (with_reducible repeat (first | refine kdN ?_ _ | refine kd1 ?_ | refine kal ?_ _)); refine blk_put (cs := #[.int .i64 0, .int .i64 0, .int .i64 0, .int .u32 0, .int .i64 0]) ?_ 0 _ rfl; (with_reducible repeat (first | refine kdN ?_ _ | refine kd1 ?_ | refine kal ?_ _)); exact BK152.out) Try.underlying24 rfl (by kernel_rfl)) rfl ?_
              exact ⟨by first | rfl | (simp [errW_none, errW_some] <;> rfl) | (simp [*, errW_none, errW_some] <;> rfl), by repeat (first | (with_reducible first | exact HB.out | apply bal | apply pbN | apply bd1 | refine bst ?_ GE152.out | refine bst ?_ GE177.out) | exact HB.out)⟩
             ·replace c30 := Bool.eq_false_iff.mpr c30
              subst c30
              have H1 : (some (0, 0, 0, 0, 0, 2)) = some (r1, r2, r3, r4, r5, r6) := by rw [if_neg (show ¬ (false = true) by decide)] at H; exact H
              clear H
              have H := H1
              clear H1
              simp only [Option.some.injEq, Prod.mk.injEq] at H
              obtain ⟨rfl, rfl, rfl, rfl, rfl, rfl⟩ := H
              try go_wp2
              have n0_ := Azz.mk (kd1 BK152.out)
              have n1_ := Azz.mk (bd1 HB.out)
              clear BK152
              clear HB
              have BK152 := n0_
              have HB := n1_
              clear n0_ n1_
              have p170 : 0 ≤ (2 : Int) := (by omega)
              have q170 : 2 < (l0.length : Int) := of_decide_eq_true (by first | (with_reducible assumption) | assumption)
              obtain ⟨ad170, e170, hx170_0⟩ := Kd.at_int HR0.out 2 p170 q170
              have hw170_0 := hx170_0
              (try rw [show ((2 : Int)).toNat = 2 from rfl] at hw170_0)
              (try rw [show 2 * 1 = 2 from rfl] at hw170_0)
              (try simp only [Nat.reduceMul, Nat.reduceEqDiff, Go.Addr.add, ↓reduceIte] at hw170_0)
              cases e170
              (try simp only [show (2 : Int).toNat = 2 from rfl, Nat.reduceMul, Nat.reduceEqDiff, Go.Addr.add, ↓reduceIte] at hx170_0)
              have qi170 : (2 < l0.length) = True := eq_true (by omega)
              (try rw [show ((2 : Int)).toNat = 2 from rfl] at hx170_0)
              replace hx170_0 := (HB.out.cell (World.block_lt_of_cell? w _ hx170_0)).trans hx170_0
              replace p170 := eq_true p170
              replace q170 := eq_true q170
              have p171 : 0 ≤ (3 : Int) := (by omega)
              have q171 : 3 < (l0.length : Int) := of_decide_eq_true (by first | (with_reducible assumption) | assumption)
              obtain ⟨ad171, e171, hx171_0⟩ := Kd.at_int HR0.out 3 p171 q171
              have hw171_0 := hx171_0
              (try rw [show ((3 : Int)).toNat = 3 from rfl] at hw171_0)
              (try rw [show 3 * 1 = 3 from rfl] at hw171_0)
              (try simp only [Nat.reduceMul, Nat.reduceEqDiff, Go.Addr.add, ↓reduceIte] at hw171_0)
              obtain rfl : ad170 = ad171 := (by injection e171)
              (try simp only [show (3 : Int).toNat = 3 from rfl, Nat.reduceMul, Nat.reduceEqDiff, Go.Addr.add, ↓reduceIte] at hx171_0)
              have qi171 : (3 < l0.length) = True := eq_true (by omega)
              (try rw [show ((3 : Int)).toNat = 3 from rfl] at hx171_0)
              replace hx171_0 := (HB.out.cell (World.block_lt_of_cell? w _ hx171_0)).trans hx171_0
              replace p171 := eq_true p171
              replace q171 := eq_true q171
              have q46 : (16 : Int) ≤ ((l0.length : Int) : Int) := of_decide_eq_true (by first | (with_reducible assumption) | assumption)
              obtain ⟨i046, hi046, _, hsz46, _⟩ := info_parts info5
              have hroom46 : l0.length ≤ c0 := HC0.out
              have hC46 : Kd.C (Kd.int .u8) _ (some ad170) l0.length l0 := HR0.out
              have ql46 : (12 : Int) ≤ (16 : Int) := (by omega)
              have hcut46 := cut_mid (P := Try.prog) 26 5 .i64 .i64 Try.underlying26 hi046 1 hsz46 (some ad170) l0.length c0 12 16 (by omega) ql46 q46 hroom46
              have hr46 := Kd.C_mid (lo := (12 : Int).toNat) (hi := (16 : Int).toNat) (c := c0) hC46 (by omega) (by omega) hroom46
              obtain ⟨A46, hA46⟩ : ∃ A1, A1 = (if c0 = (12 : Int).toNat then (some ad170) else ((some ad170) : Option Addr).map (·.add ((12 : Int).toNat * 1))) := ⟨_, rfl⟩
              obtain ⟨c46, hc46⟩ : ∃ c1, c1 = c0 - (12 : Int).toNat := ⟨_, rfl⟩
              have hy46 : y172.length = (16 : Int).toNat - (12 : Int).toNat := (by rw [Ny172.out, List.length_drop, List.length_take] <;> omega)
              rw [show ((l0).take (16 : Int).toNat).drop (12 : Int).toNat = y172 from Ny172.out.symm] at hr46
              replace hr46 : Kd.C (Kd.int .u8) _ A46 y172.length y172 := (by rw [hA46]; exact hr46)
              rw [← hy46, ← hA46, ← hc46] at hcut46
              have HR175 := Azz.mk hr46
              have HC175 := Azz.mk (show y172.length ≤ c46 from by rw [hy46, hc46]; exact Nat.sub_le_sub_right (Nat.le_trans (by omega) hroom46) _)
              clear hr46 hC46 hroom46 hi046 hsz46 hc46
              have KY46 := Azz.mk hy46
              have KA46 := Azz.mk hA46
              clear hy46 hA46
              replace q46 := eq_true q46
              refine start_ (n := 19) (S := fun w' => w'.cell? ⟨ad170.block, ad170.off + 2, none⟩ = some (.int .u8 (rd l0 2)) ∧ w'.cell? ⟨ad170.block, ad170.off + 3, none⟩ = some (.int .u8 (rd l0 3))) (ds := []) #[false, false, false, false, false, false, false, false, false, false, false, false, false, false, false, false, false, false, false] (by kernel_rfl) rfl rfl ⟨((HB.out.cell (World.block_lt_of_cell? w _ hw170_0)).trans hw170_0), ((HB.out.cell (World.block_lt_of_cell? w _ hw171_0)).trans hw171_0)⟩ (fun hHeld => ?_); refine with_tabW frame_ReadControl.tab8 frame_ReadControl.bits8 (fun HT_ HW_ => ?_)
              generalize wc.drew = w45 at BK152 HB HR175 hx170_0 hx171_0 hHeld ⊢
              refine pure_ (i := 0) (N := some 41) (v := ?_) (a' := ?_) #[true, false, false, false, false, false, false, false, false, false, false, false, false, false, false, false, false, false, false] rfl rfl (any_of HT_.out (by kernel_rfl)) (fun _ _ _ h => h) (Or.inl ⟨by rfl, ?_⟩) ?_ ?_
              rotate_left
              ·intro w'
               go_simp
               with_reducible rfl
              rotate_left
              ·simp only [Act.put, List.setIfInBounds_toArray, List.set_cons_zero, List.set_cons_succ, i64_w, i32_w]
               rfl
              refine pure_ (i := 1) (N := some 42) (v := ?_) (a' := ?_) #[true, true, false, false, false, false, false, false, false, false, false, false, false, false, false, false, false, false, false] rfl rfl (any_of HT_.out (by kernel_rfl)) (fun _ _ _ h => h) (Or.inl ⟨by rfl, ?_⟩) ?_ ?_
              rotate_left
              ·intro w'
               go_simp
               with_reducible rfl
              rotate_left
              ·simp only [Act.put, List.setIfInBounds_toArray, List.set_cons_zero, List.set_cons_succ, i64_w, i32_w]
               rfl
              refine pure_ (i := 4) (N := some 45) (v := ?_) (a' := ?_) #[true, true, false, false, true, false, false, false, false, false, false, false, false, false, false, false, false, false, false] rfl rfl (any_of HT_.out (by kernel_rfl)) (fun _ _ _ h => h) (Or.inl ⟨by rfl, ?_⟩) ?_ ?_
              rotate_left
              ·intro w'
               go_simp
               with_reducible rfl
              rotate_left
              ·simp only [Act.put, List.setIfInBounds_toArray, List.set_cons_zero, List.set_cons_succ, i64_w, i32_w]
               rfl
              refine pure_ (i := 5) (N := some 46) (v := ?_) (a' := ?_) #[true, true, false, false, true, true, false, false, false, false, false, false, false, false, false, false, false, false, false] rfl rfl (any_of HT_.out (by kernel_rfl)) (fun _ _ _ h => h) (Or.inl ⟨by rfl, ?_⟩) ?_ ?_
              rotate_left
              ·intro w'
               go_simp
               with_reducible rfl
              rotate_left
              ·simp only [Act.put, List.setIfInBounds_toArray, List.set_cons_zero, List.set_cons_succ, i64_w, i32_w]
               rfl
              refine pure_ (i := 8) (N := some 49) (v := ?_) (a' := ?_) #[true, true, false, false, true, true, false, false, true, false, false, false, false, false, false, false, false, false, false] rfl rfl (any_of HT_.out (by kernel_rfl)) (fun _ _ _ h => h) (Or.inl ⟨by rfl, ?_⟩) ?_ ?_
              rotate_left
              ·intro w'
               go_simp
               with_reducible rfl
              rotate_left
              ·simp only [Act.put, List.setIfInBounds_toArray, List.set_cons_zero, List.set_cons_succ, i64_w, i32_w]
               rfl
              refine pure_ (i := 9) (N := some 50) (v := ?_) (a' := ?_) #[true, true, false, false, true, true, false, false, true, true, false, false, false, false, false, false, false, false, false] rfl rfl (any_of HT_.out (by kernel_rfl)) (fun _ _ _ h => h) (Or.inl ⟨by rfl, ?_⟩) ?_ ?_
              rotate_left
              ·intro w'
               go_simp
               with_reducible rfl
              rotate_left
              ·simp only [Act.put, List.setIfInBounds_toArray, List.set_cons_zero, List.set_cons_succ, i64_w, i32_w]
               rfl
              refine pure_ (i := 10) (N := some 51) (v := ?_) (a' := ?_) #[true, true, false, false, true, true, false, false, true, true, true, false, false, false, false, false, false, false, false] rfl rfl (any_of HT_.out (by kernel_rfl)) (fun _ _ _ h => h) (Or.inl ⟨by rfl, ?_⟩) ?_ ?_
              rotate_left
              ·intro w'
               go_simp
               with_reducible rfl
              rotate_left
              ·simp only [Act.put, List.setIfInBounds_toArray, List.set_cons_zero, List.set_cons_succ, i64_w, i32_w]
               rfl
              refine pure_ (i := 11) (N := some 52) (v := ?_) (a' := ?_) #[true, true, false, false, true, true, false, false, true, true, true, true, false, false, false, false, false, false, false] rfl rfl (any_of HT_.out (by kernel_rfl)) (fun _ _ _ h => h) (Or.inl ⟨by rfl, ?_⟩) ?_ ?_
              rotate_left
              ·intro w'
               go_simp
               with_reducible rfl
              rotate_left
              ·simp only [Act.put, List.setIfInBounds_toArray, List.set_cons_zero, List.set_cons_succ, i64_w, i32_w]
               rfl
              refine pure_ (i := 14) (N := some 55) (v := ?_) (a' := ?_) #[true, true, false, false, true, true, false, false, true, true, true, true, false, false, true, false, false, false, false] rfl rfl (any_of HT_.out (by kernel_rfl)) (fun _ _ _ h => h) (Or.inl ⟨by rfl, ?_⟩) ?_ ?_
              rotate_left
              ·intro w'
               go_simp
               with_reducible rfl
              rotate_left
              ·simp only [Act.put, List.setIfInBounds_toArray, List.set_cons_zero, List.set_cons_succ, i64_w, i32_w]
               rfl
              refine pure_ (i := 15) (N := some 56) (v := ?_) (a' := ?_) #[true, true, false, false, true, true, false, false, true, true, true, true, false, false, true, true, false, false, false] rfl rfl (any_of HT_.out (by kernel_rfl)) (fun _ _ _ h => h) (Or.inl ⟨by rfl, ?_⟩) ?_ ?_
              rotate_left
              ·intro w'
               go_simp
               with_reducible rfl
              rotate_left
              ·simp only [Act.put, List.setIfInBounds_toArray, List.set_cons_zero, List.set_cons_succ, i64_w, i32_w]
               rfl
              refine take_ (i := 2) (N := some 43) (v := ?_) (a' := ?_) #[true, true, true, false, true, true, false, false, true, true, true, true, false, false, true, true, false, false, false] rfl rfl (take_ofW HT_.out HW_.out (by kernel_rfl)) (fun _ _ _ h => h) (Or.inl ⟨by rfl, ?_⟩) hHeld ?_ ?_
              rotate_left
              ·rintro w' ⟨s0, s1⟩
               go_simp
               with_reducible rfl
              rotate_left
              ·simp only [Act.put, List.setIfInBounds_toArray, List.set_cons_zero, List.set_cons_succ, i64_w, i32_w]
               rfl
              refine pure_ (i := 3) (N := some 44) (v := ?_) (a' := ?_) #[true, true, true, true, true, true, false, false, true, true, true, true, false, false, true, true, false, false, false] rfl rfl (any_of HT_.out (by kernel_rfl)) (fun _ _ _ h => h) (Or.inl ⟨by rfl, ?_⟩) ?_ ?_
              rotate_left
              ·intro w'
               go_simp
               with_reducible rfl
              rotate_left
              ·simp only [Act.put, List.setIfInBounds_toArray, List.set_cons_zero, List.set_cons_succ, i64_w, i32_w]
               rfl
              refine take_ (i := 6) (N := some 47) (v := ?_) (a' := ?_) #[true, true, true, true, true, true, true, false, true, true, true, true, false, false, true, true, false, false, false] rfl rfl (take_ofW HT_.out HW_.out (by kernel_rfl)) (fun _ _ _ h => h) (Or.inl ⟨by rfl, ?_⟩) hHeld ?_ ?_
              rotate_left
              ·rintro w' ⟨s0, s1⟩
               go_simp
               with_reducible rfl
              rotate_left
              ·simp only [Act.put, List.setIfInBounds_toArray, List.set_cons_zero, List.set_cons_succ, i64_w, i32_w]
               rfl
              refine pure_ (i := 7) (N := some 48) (v := ?_) (a' := ?_) #[true, true, true, true, true, true, true, true, true, true, true, true, false, false, true, true, false, false, false] rfl rfl (any_of HT_.out (by kernel_rfl)) (fun _ _ _ h => h) (Or.inl ⟨by rfl, ?_⟩) ?_ ?_
              rotate_left
              ·intro w'
               go_simp
               with_reducible rfl
              rotate_left
              ·simp only [Act.put, List.setIfInBounds_toArray, List.set_cons_zero, List.set_cons_succ, i64_w, i32_w]
               rfl
              refine join_ (σ := Nat) 1 #[true, true, true, true, true, true, true, true, true, true, true, true, true, true, true, true, true, true, false] (fun s_ => [(53, .int .u64 t176), (6, .pointer (some ⟨s_, 0, none⟩)), (54, .int .u32 ((t176) % 4294967296)), (57, .agg #[.int .i64 (wrap64 (rd l0 2)), .int .i64 (wrap64 (rd l0 3)), .int .i64 (wrap64 (t159)), .int .u32 ((t176) % 4294967296), .int .i64 (wrap64 (t164))])]) (fun s_ w' => (w'.cell? ⟨ad170.block, ad170.off + 2, none⟩ = some (.int .u8 (rd l0 2)) ∧ w'.cell? ⟨ad170.block, ad170.off + 3, none⟩ = some (.int .u8 (rd l0 3))) ∧ (w'.heap[gb152]? = some (.cells #[.int .i64 0, .int .i64 0, .int .i64 0, .int .u32 0, .int .i64 0] 24 (0, 0))) ∧ (w'.heap[s_]? = some (.cells #[.int .i64 0, .int .i64 0, .int .i64 0, .int .u32 0, .int .i64 0] 24 (0, 0))) ∧ (w.heap.size ≤ s_) ∧ (w.heap.size ≤ s_) ∧ (gb152 ≠ s_) ∧ (s_ ≠ gb152) ∧ (Below w.heap.size w w')) ?_ ?_
              rotate_left
              ·intro hCont
               refine two_ (i := 12) (j := 17) (Ni := some 53) (Nj := some 6) #[true, true, true, true, true, true, true, true, true, true, true, true, true, false, true, true, false, false, false] #[true, true, true, true, true, true, true, true, true, true, true, true, false, false, true, true, false, true, false] rfl rfl rfl rfl (two_of HT_.out (by kernel_rfl)) (by decide) (by decide) (fun K hK => ?_) (fun K hK => ?_)
               ·skip
                refine goes_ Try.func31 (by kernel_rfl) rfl #[.slice A46 y172.length c46] (by rfl) rfl rfl (by (try simp only [List.map_toArray, List.map_cons, List.map_nil]); first | done | rfl | (simp only [List.length_drop, List.length_take]; rfl)) ?_
                with_reducible refine (frame_get.calls kj13 _ _ y172 t176 _ ?side1 ?side2 A28.out).mono ?_
                (case side1 => repeat (first | exact (Kd.C_below HR175.out HB.out) | (with_reducible refine Kd.C_alloc ?_ _) | (with_reducible refine Kd.C_drewN ?_ _) | (with_reducible refine Kd.C_drew ?_)))
                (case side2 => exact HC175.out)
                rintro e w' ⟨rfl, ⟨nd, rfl⟩⟩
                refine ⟨_, rfl, ?_⟩
                refine hK.out _ _ ⟨((HB.out.cell (World.block_lt_of_cell? w _ hw170_0)).trans hw170_0), ((HB.out.cell (World.block_lt_of_cell? w _ hw171_0)).trans hw171_0)⟩ (fun hHeld => ?_)
                clear hK K
                refine norm_ (a' := ?_) ?_ ?_
                rotate_left
                ·show Act.put _ (some 53) _ = _
                 simp only [Act.put, List.setIfInBounds_toArray, List.set_cons_zero, List.set_cons_succ, i64_w, i32_w]
                 rfl
                refine pure_ (i := 13) (N := some 54) (v := ?_) (a' := ?_) #[true, true, true, true, true, true, true, true, true, true, true, true, true, true, true, true, false, false, false] rfl rfl (any_of HT_.out (by kernel_rfl)) (fun _ _ _ h => h) (Or.inl ⟨by rfl, ?_⟩) ?_ ?_
                rotate_left
                ·intro w'
                 go_simp
                 with_reducible rfl
                rotate_left
                ·simp only [Act.put, List.setIfInBounds_toArray, List.set_cons_zero, List.set_cons_succ, i64_w, i32_w]
                 rfl
                refine pure_ (i := 16) (N := some 57) (v := ?_) (a' := ?_) #[true, true, true, true, true, true, true, true, true, true, true, true, true, true, true, true, true, false, false] rfl rfl (any_of HT_.out (by kernel_rfl)) (fun _ _ _ h => h) (Or.inl ⟨by rfl, ?_⟩) ?_ ?_
                rotate_left
                ·intro w'
                 go_simp
                 with_reducible rfl
                rotate_left
                ·simp only [Act.put, List.setIfInBounds_toArray, List.set_cons_zero, List.set_cons_succ, i64_w, i32_w]
                 rfl
                refine one_ (i := 17) (N := some 6) #[true, true, true, true, true, true, true, true, true, true, true, true, true, true, true, true, true, true, false] rfl rfl (one_of HT_.out (by kernel_rfl)) (by decide) (fun K hK => ?_)
                refine box_step ?hg (N := 6) ?hd (cs := #[.int .i64 0, .int .i64 0, .int .i64 0, .int .u32 0, .int .i64 0]) (t := 24) ?hr ?_; (case hd => rfl); (case hg => rfl); (case hr => first | (go_simp; done) | (go_simp; rfl))
                intro gb177 hg w47 hbox hb
                have n0_ := Azz.mk (blk_below (g := gb152) (o := .cells #[.int .i64 0, .int .i64 0, .int .i64 0, .int .u32 0, .int .i64 0] 24 (0, 0)) (by (with_reducible repeat (first | refine kdN ?_ _ | refine kd1 ?_ | refine kal ?_ _)); exact BK152.out) hb)
                have n1_ := Azz.mk (below_step (by repeat (first | (with_reducible first | exact HB.out | apply bal | apply pbN | apply bd1 | refine bst ?_ GE152.out) | exact HB.out)) hb)
                have n2_ := Azz.mk (hbox)
                have n3_ := Azz.mk ((by rw [hg]; exact (below_size (by repeat (first | (with_reducible first | exact HB.out | apply bal | apply pbN | apply bd1 | refine bst ?_ GE152.out) | exact HB.out))) : w.heap.size ≤ gb177))
                have n4_ := Azz.mk ((by rw [hg]; exact (below_size (by repeat (first | (with_reducible first | exact HB.out | apply bal | apply pbN | apply bd1 | refine bst ?_ GE152.out) | exact HB.out))) : w.heap.size ≤ gb177))
                have n5_ := Azz.mk ((by rw [hg]; exact Nat.ne_of_lt (blk_lt (g := gb152) (o := .cells #[.int .i64 0, .int .i64 0, .int .i64 0, .int .u32 0, .int .i64 0] 24 (0, 0)) (by (with_reducible repeat (first | refine kdN ?_ _ | refine kd1 ?_ | refine kal ?_ _)); exact BK152.out)) : gb152 ≠ gb177))
                have n6_ := Azz.mk ((by rw [hg]; exact Nat.ne_of_gt (blk_lt (g := gb152) (o := .cells #[.int .i64 0, .int .i64 0, .int .i64 0, .int .u32 0, .int .i64 0] 24 (0, 0)) (by (with_reducible repeat (first | refine kdN ?_ _ | refine kd1 ?_ | refine kal ?_ _)); exact BK152.out)) : gb177 ≠ gb152))
                clear BK152
                clear HB
                have BK152 := n0_
                have HB := n1_
                have BK177 := n2_
                have GW177 := n3_
                have GE177 := n4_
                have NB152_177 := n5_
                have NB177_152 := n6_
                clear n0_ n1_ n2_ n3_ n4_ n5_ n6_
                clear hb hbox hg
                refine hK.out _ _ ⟨((HB.out.cell (World.block_lt_of_cell? w _ hw170_0)).trans hw170_0), ((HB.out.cell (World.block_lt_of_cell? w _ hw171_0)).trans hw171_0)⟩ (fun hHeld => ?_)
                clear hK K
                refine norm_ (a' := ?_) ?_ ?_
                rotate_left
                ·show Act.put _ (some 6) _ = _
                 simp only [Act.put, List.setIfInBounds_toArray, List.set_cons_zero, List.set_cons_succ, i64_w, i32_w]
                 rfl
                exact norm_ (by first | (simp only [putAll, Act.put, List.setIfInBounds_toArray, List.set_cons_zero, List.set_cons_succ]; done) | (simp only [putAll, Act.put, List.setIfInBounds_toArray, List.set_cons_zero, List.set_cons_succ, IntKind.wrap_u32, IntKind.wrap_u8]; done)) (hCont (gb177) _ ⟨hHeld, (by (with_reducible repeat (first | refine kdN ?_ _ | refine kd1 ?_ | refine kal ?_ _)); exact BK152.out), (by (with_reducible repeat (first | refine kdN ?_ _ | refine kd1 ?_ | refine kal ?_ _)); exact BK177.out), GW177.out, GE177.out, NB152_177.out, NB177_152.out, (by repeat (first | (with_reducible first | exact HB.out | apply bal | apply pbN | apply bd1 | refine bst ?_ GE152.out | refine bst ?_ GE177.out) | exact HB.out))⟩)
               ·skip
                refine box_step ?hg (N := 6) ?hd (cs := #[.int .i64 0, .int .i64 0, .int .i64 0, .int .u32 0, .int .i64 0]) (t := 24) ?hr ?_; (case hd => rfl); (case hg => rfl); (case hr => first | (go_simp; done) | (go_simp; rfl))
                intro gb177 hg w47 hbox hb
                have n0_ := Azz.mk (blk_below (g := gb152) (o := .cells #[.int .i64 0, .int .i64 0, .int .i64 0, .int .u32 0, .int .i64 0] 24 (0, 0)) (by (with_reducible repeat (first | refine kdN ?_ _ | refine kd1 ?_ | refine kal ?_ _)); exact BK152.out) hb)
                have n1_ := Azz.mk (below_step (by repeat (first | (with_reducible first | exact HB.out | apply bal | apply pbN | apply bd1 | refine bst ?_ GE152.out) | exact HB.out)) hb)
                have n2_ := Azz.mk (hbox)
                have n3_ := Azz.mk ((by rw [hg]; exact (below_size (by repeat (first | (with_reducible first | exact HB.out | apply bal | apply pbN | apply bd1 | refine bst ?_ GE152.out) | exact HB.out))) : w.heap.size ≤ gb177))
                have n4_ := Azz.mk ((by rw [hg]; exact (below_size (by repeat (first | (with_reducible first | exact HB.out | apply bal | apply pbN | apply bd1 | refine bst ?_ GE152.out) | exact HB.out))) : w.heap.size ≤ gb177))
                have n5_ := Azz.mk ((by rw [hg]; exact Nat.ne_of_lt (blk_lt (g := gb152) (o := .cells #[.int .i64 0, .int .i64 0, .int .i64 0, .int .u32 0, .int .i64 0] 24 (0, 0)) (by (with_reducible repeat (first | refine kdN ?_ _ | refine kd1 ?_ | refine kal ?_ _)); exact BK152.out)) : gb152 ≠ gb177))
                have n6_ := Azz.mk ((by rw [hg]; exact Nat.ne_of_gt (blk_lt (g := gb152) (o := .cells #[.int .i64 0, .int .i64 0, .int .i64 0, .int .u32 0, .int .i64 0] 24 (0, 0)) (by (with_reducible repeat (first | refine kdN ?_ _ | refine kd1 ?_ | refine kal ?_ _)); exact BK152.out)) : gb177 ≠ gb152))
                clear BK152
                clear HB
                have BK152 := n0_
                have HB := n1_
                have BK177 := n2_
                have GW177 := n3_
                have GE177 := n4_
                have NB152_177 := n5_
                have NB177_152 := n6_
                clear n0_ n1_ n2_ n3_ n4_ n5_ n6_
                clear hb hbox hg
                refine hK.out _ _ ⟨((HB.out.cell (World.block_lt_of_cell? w _ hw170_0)).trans hw170_0), ((HB.out.cell (World.block_lt_of_cell? w _ hw171_0)).trans hw171_0)⟩ (fun hHeld => ?_)
                clear hK K
                refine norm_ (a' := ?_) ?_ ?_
                rotate_left
                ·show Act.put _ (some 6) _ = _
                 simp only [Act.put, List.setIfInBounds_toArray, List.set_cons_zero, List.set_cons_succ, i64_w, i32_w]
                 rfl
                refine one_ (i := 12) (N := some 53) #[true, true, true, true, true, true, true, true, true, true, true, true, true, false, true, true, false, true, false] rfl rfl (one_of HT_.out (by kernel_rfl)) (by decide) (fun K hK => ?_)
                refine goes_ Try.func31 (by kernel_rfl) rfl #[.slice A46 y172.length c46] (by rfl) rfl rfl (by (try simp only [List.map_toArray, List.map_cons, List.map_nil]); first | done | rfl | (simp only [List.length_drop, List.length_take]; rfl)) ?_
                with_reducible refine (frame_get.calls kj13 _ _ y172 t176 _ ?side1 ?side2 A28.out).mono ?_
                (case side1 => repeat (first | exact (Kd.C_below HR175.out HB.out) | (with_reducible refine Kd.C_alloc ?_ _) | (with_reducible refine Kd.C_drewN ?_ _) | (with_reducible refine Kd.C_drew ?_)))
                (case side2 => exact HC175.out)
                rintro e w' ⟨rfl, ⟨nd, rfl⟩⟩
                refine ⟨_, rfl, ?_⟩
                refine hK.out _ _ ⟨((HB.out.cell (World.block_lt_of_cell? w _ hw170_0)).trans hw170_0), ((HB.out.cell (World.block_lt_of_cell? w _ hw171_0)).trans hw171_0)⟩ (fun hHeld => ?_)
                clear hK K
                refine norm_ (a' := ?_) ?_ ?_
                rotate_left
                ·show Act.put _ (some 53) _ = _
                 simp only [Act.put, List.setIfInBounds_toArray, List.set_cons_zero, List.set_cons_succ, i64_w, i32_w]
                 rfl
                refine pure_ (i := 13) (N := some 54) (v := ?_) (a' := ?_) #[true, true, true, true, true, true, true, true, true, true, true, true, true, true, true, true, false, true, false] rfl rfl (any_of HT_.out (by kernel_rfl)) (fun _ _ _ h => h) (Or.inl ⟨by rfl, ?_⟩) ?_ ?_
                rotate_left
                ·intro w'
                 go_simp
                 with_reducible rfl
                rotate_left
                ·simp only [Act.put, List.setIfInBounds_toArray, List.set_cons_zero, List.set_cons_succ, i64_w, i32_w]
                 rfl
                refine pure_ (i := 16) (N := some 57) (v := ?_) (a' := ?_) #[true, true, true, true, true, true, true, true, true, true, true, true, true, true, true, true, true, true, false] rfl rfl (any_of HT_.out (by kernel_rfl)) (fun _ _ _ h => h) (Or.inl ⟨by rfl, ?_⟩) ?_ ?_
                rotate_left
                ·intro w'
                 go_simp
                 with_reducible rfl
                rotate_left
                ·simp only [Act.put, List.setIfInBounds_toArray, List.set_cons_zero, List.set_cons_succ, i64_w, i32_w]
                 rfl
                exact norm_ (by first | (simp only [putAll, Act.put, List.setIfInBounds_toArray, List.set_cons_zero, List.set_cons_succ]; done) | (simp only [putAll, Act.put, List.setIfInBounds_toArray, List.set_cons_zero, List.set_cons_succ, IntKind.wrap_u32, IntKind.wrap_u8]; done)) (hCont (gb177) _ ⟨hHeld, (by (with_reducible repeat (first | refine kdN ?_ _ | refine kd1 ?_ | refine kal ?_ _)); exact BK152.out), (by (with_reducible repeat (first | refine kdN ?_ _ | refine kd1 ?_ | refine kal ?_ _)); exact BK177.out), GW177.out, GE177.out, NB152_177.out, NB177_152.out, (by repeat (first | (with_reducible first | exact HB.out | apply bal | apply pbN | apply bd1 | refine bst ?_ GE152.out | refine bst ?_ GE177.out) | exact HB.out))⟩)
              rintro gb177 w48 ⟨hS_, h0_, h1_, h2_, h3_, h4_, h5_, h6_⟩
              have n0_ : Azz (w48.heap[gb152]? = some (.cells #[.int .i64 0, .int .i64 0, .int .i64 0, .int .u32 0, .int .i64 0] 24 (0, 0))) := ⟨h0_⟩
              have n1_ : Azz (w48.heap[gb177]? = some (.cells #[.int .i64 0, .int .i64 0, .int .i64 0, .int .u32 0, .int .i64 0] 24 (0, 0))) := ⟨h1_⟩
              have n2_ : Azz (w.heap.size ≤ gb177) := ⟨h2_⟩
              have n3_ : Azz (w.heap.size ≤ gb177) := ⟨h3_⟩
              have n4_ : Azz (gb152 ≠ gb177) := ⟨h4_⟩
              have n5_ : Azz (gb177 ≠ gb152) := ⟨h5_⟩
              have n6_ : Azz (Below w.heap.size w w48) := ⟨h6_⟩
              clear BK152
              clear HB
              clear h0_ h1_ h2_ h3_ h4_ h5_ h6_
              have BK152 := n0_
              have BK177 := n1_
              have GW177 := n2_
              have GE177 := n3_
              have NB152_177 := n4_
              have NB177_152 := n5_
              have HB := n6_
              clear n0_ n1_ n2_ n3_ n4_ n5_ n6_
              have hHeld : w48.cell? ⟨ad170.block, ad170.off + 2, none⟩ = some (.int .u8 (rd l0 2)) ∧ w48.cell? ⟨ad170.block, ad170.off + 3, none⟩ = some (.int .u8 (rd l0 3)) := hS_
              refine norm_ (a' := ?_) ?_ ?_
              rotate_left
              ·simp only [putAll, Act.put, List.setIfInBounds_toArray, List.set_cons_zero, List.set_cons_succ]
               rfl
              refine one_ (i := 18) (N := none) #[true, true, true, true, true, true, true, true, true, true, true, true, true, true, true, true, true, true, true] rfl rfl (one_of HT_.out (by kernel_rfl)) (by decide) (fun K hK => ?_)
              have hs49 : World.cell? _ ⟨gb177, 0, none⟩ = some (.int .i64 0) := (kcl BK177.out 0).trans rfl
              have hfs49 := kfz BK177.out 0
              have hns49_0 := NB152_177.out
              have hms49_0 := NB177_152.out
              have hs50 : World.cell? _ ⟨gb177, 1, none⟩ = some (.int .i64 0) := (kcl BK177.out 1).trans rfl
              have hfs50 := kfz BK177.out 1
              have hns50_0 := NB152_177.out
              have hms50_0 := NB177_152.out
              have hs51 : World.cell? _ ⟨gb177, 2, none⟩ = some (.int .i64 0) := (kcl BK177.out 2).trans rfl
              have hfs51 := kfz BK177.out 2
              have hns51_0 := NB152_177.out
              have hms51_0 := NB177_152.out
              have hs52 : World.cell? _ ⟨gb177, 3, none⟩ = some (.int .u32 0) := (kcl BK177.out 3).trans rfl
              have hfs52 := kfz BK177.out 3
              have hns52_0 := NB152_177.out
              have hms52_0 := NB177_152.out
              have hs53 : World.cell? _ ⟨gb177, 4, none⟩ = some (.int .i64 0) := (kcl BK177.out 4).trans rfl
              have hfs53 := kfz BK177.out 4
              have hns53_0 := NB152_177.out
              have hms53_0 := NB177_152.out
              refine skip_ (w1 := ?_) (by rfl) rfl ?_ ?_
              rotate_left
              ·go_simp
               rfl
              refine hK.out _ _ ⟨((cell_far (p := ⟨gb177, _, none⟩) (cell_ne hw170_0 GW177.out) _).trans (((cell_far (p := ⟨gb177, _, none⟩) (cell_ne hw170_0 GW177.out) _).trans (((cell_far (p := ⟨gb177, _, none⟩) (cell_ne hw170_0 GW177.out) _).trans (((cell_far (p := ⟨gb177, _, none⟩) (cell_ne hw170_0 GW177.out) _).trans (((cell_far (p := ⟨gb177, _, none⟩) (cell_ne hw170_0 GW177.out) _).trans (hHeld.1)))))))))), ((cell_far (p := ⟨gb177, _, none⟩) (cell_ne hw171_0 GW177.out) _).trans (((cell_far (p := ⟨gb177, _, none⟩) (cell_ne hw171_0 GW177.out) _).trans (((cell_far (p := ⟨gb177, _, none⟩) (cell_ne hw171_0 GW177.out) _).trans (((cell_far (p := ⟨gb177, _, none⟩) (cell_ne hw171_0 GW177.out) _).trans (((cell_far (p := ⟨gb177, _, none⟩) (cell_ne hw171_0 GW177.out) _).trans (hHeld.2))))))))))⟩ (fun hHeld => ?_)
              clear hK K
              refine done_ (done_of HT_.out (by kernel_rfl)) ?_
              have hnb54 := NB177_152.out
              have hnc54 := NB152_177.out
              have hcz55_0 : World.cell? _ ⟨gb177, 0, none⟩ = some (.int .i64 0) := (kcl BK177.out 0).trans rfl
              have hcz55_1 : World.cell? _ ⟨gb177, 1, none⟩ = some (.int .i64 0) := (kcl BK177.out 1).trans rfl
              have hcz55_2 : World.cell? _ ⟨gb177, 2, none⟩ = some (.int .i64 0) := (kcl BK177.out 2).trans rfl
              have hcz55_3 : World.cell? _ ⟨gb177, 3, none⟩ = some (.int .u32 0) := (kcl BK177.out 3).trans rfl
              have hcz55_4 : World.cell? _ ⟨gb177, 4, none⟩ = some (.int .i64 0) := (kcl BK177.out 4).trans rfl
              have hfz55_0 := kfz BK177.out 0
              have hfz55_1 := kfz BK177.out 1
              have hfz55_2 := kfz BK177.out 2
              have hfz55_3 := kfz BK177.out 3
              have hfz55_4 := kfz BK177.out 4
              try go_wp2_with (first | ((with_reducible refine gate_callee (f := 27) rfl ?_); refine goesL_ (some 59) rfl rfl Try.func27 (by kernel_rfl) rfl #[.agg #[.int .i64 (wrap64 (rd l0 2)), .int .i64 (wrap64 (rd l0 3)), .int .i64 (wrap64 (t159)), .int .u32 ((t176) % 4294967296), .int .i64 (wrap64 (t164))]] rfl (by (try simp only [List.map_toArray, List.map_cons, List.map_nil]); first | done | rfl | (simp only [List.length_drop, List.length_take]; rfl)) ?_; (with_reducible refine (frame_rightControl.calls (wrap64 (rd l0 2)) (wrap64 (rd l0 3)) (wrap64 (t159)) ((t176) % 4294967296) (wrap64 (t164)) false _ A29.out).mono ?_); rintro e w56 ⟨rfl, hb⟩; refine ⟨_, rfl, ?_⟩; have n0_ := Azz.mk (blk_below (g := gb152) (o := .cells #[.int .i64 0, .int .i64 0, .int .i64 0, .int .u32 0, .int .i64 0] 24 (0, 0)) (by (with_reducible repeat (first | refine kdN ?_ _ | refine kd1 ?_ | refine kal ?_ _)); refine blk_far ?_ NB152_177.out _; (with_reducible repeat (first | refine kdN ?_ _ | refine kd1 ?_ | refine kal ?_ _)); refine blk_far ?_ NB152_177.out _; (with_reducible repeat (first | refine kdN ?_ _ | refine kd1 ?_ | refine kal ?_ _)); refine blk_far ?_ NB152_177.out _; (with_reducible repeat (first | refine kdN ?_ _ | refine kd1 ?_ | refine kal ?_ _)); refine blk_far ?_ NB152_177.out _; (with_reducible repeat (first | refine kdN ?_ _ | refine kd1 ?_ | refine kal ?_ _)); refine blk_far ?_ NB152_177.out _; (with_reducible repeat (first | refine kdN ?_ _ | refine kd1 ?_ | refine kal ?_ _)); exact BK152.out) hb); have n1_ := Azz.mk (blk_below (g := gb177) (o := .cells #[.int .i64 (wrap64 (rd l0 2)), .int .i64 (wrap64 (rd l0 3)), .int .i64 (wrap64 (t159)), .int .u32 ((t176) % 4294967296), .int .i64 (wrap64 (t164))] 24 (0, 0)) (by (with_reducible repeat (first | refine kdN ?_ _ | refine kd1 ?_ | refine kal ?_ _)); refine blk_put (cs := #[.int .i64 (wrap64 (rd l0 2)), .int .i64 (wrap64 (rd l0 3)), .int .i64 (wrap64 (t159)), .int .u32 ((t176) % 4294967296), .int .i64 0]) ?_ 4 _ rfl; (with_reducible repeat (first | refine kdN ?_ _ | refine kd1 ?_ | refine kal ?_ _)); refine blk_put (cs := #[.int .i64 (wrap64 (rd l0 2)), .int .i64 (wrap64 (rd l0 3)), .int .i64 (wrap64 (t159)), .int .u32 0, .int .i64 0]) ?_ 3 _ rfl; (with_reducible repeat (first | refine kdN ?_ _ | refine kd1 ?_ | refine kal ?_ _)); refine blk_put (cs := #[.int .i64 (wrap64 (rd l0 2)), .int .i64 (wrap64 (rd l0 3)), .int .i64 0, .int .u32 0, .int .i64 0]) ?_ 2 _ rfl; (with_reducible repeat (first | refine kdN ?_ _ | refine kd1 ?_ | refine kal ?_ _)); refine blk_put (cs := #[.int .i64 (wrap64 (rd l0 2)), .int .i64 0, .int .i64 0, .int .u32 0, .int .i64 0]) ?_ 1 _ rfl; (with_reducible repeat (first | refine kdN ?_ _ | refine kd1 ?_ | refine kal ?_ _)); refine blk_put (cs := #[.int .i64 0, .int .i64 0, .int .i64 0, .int .u32 0, .int .i64 0]) ?_ 0 _ rfl; (with_reducible repeat (first | refine kdN ?_ _ | refine kd1 ?_ | refine kal ?_ _)); exact BK177.out) hb); have n2_ := Azz.mk (below_step (by repeat (first | (with_reducible first | exact HB.out | apply bal | apply pbN | apply bd1 | refine bst ?_ GE152.out | refine bst ?_ GE177.out) | exact HB.out)) hb); clear BK152; clear BK177; clear HB; have BK152 := n0_; have BK177 := n1_; have HB := n2_; clear n0_ n1_ n2_; (try clear hb); (try clear hb2); (try clear hk); (try clear hi); have hcz57_0 : World.cell? _ ⟨gb152, 0, none⟩ = some (.int .i64 0) := (kcl BK152.out 0).trans rfl; have hcz57_1 : World.cell? _ ⟨gb152, 1, none⟩ = some (.int .i64 0) := (kcl BK152.out 1).trans rfl; have hcz57_2 : World.cell? _ ⟨gb152, 2, none⟩ = some (.int .i64 0) := (kcl BK152.out 2).trans rfl; have hcz57_3 : World.cell? _ ⟨gb152, 3, none⟩ = some (.int .u32 0) := (kcl BK152.out 3).trans rfl; have hcz57_4 : World.cell? _ ⟨gb152, 4, none⟩ = some (.int .i64 0) := (kcl BK152.out 4).trans rfl; have hfz57_0 := kfz BK152.out 0; have hfz57_1 := kfz BK152.out 1; have hfz57_2 := kfz BK152.out 2; have hfz57_3 := kfz BK152.out 3; have hfz57_4 := kfz BK152.out 4))
              refine bodyPost_ret (results_ct rfl _ _ gb152 24 #[.int .i64 0, .int .i64 0, .int .i64 0, .int .u32 0, .int .i64 0] (0, 0) _ rfl (by (with_reducible repeat (first | refine kdN ?_ _ | refine kd1 ?_ | refine kal ?_ _)); refine blk_put (cs := #[.int .i64 0, .int .i64 0, .int .i64 0, .int .u32 0, .int .i64 0]) ?_ 4 _ rfl; (with_reducible repeat (first | refine kdN ?_ _ | refine kd1 ?_ | refine kal ?_ _)); refine blk_put (cs := #[.int .i64 0, .int .i64 0, .int .i64 0, .int .u32 0, .int .i64 0]) ?_ 3 _ rfl; (with_reducible repeat (first | refine kdN ?_ _ | refine kd1 ?_ | refine kal ?_ _)); refine blk_put (cs := #[.int .i64 0, .int .i64 0, .int .i64 0, .int .u32 0, .int .i64 0]) ?_ 2 _ rfl; (with_reducible repeat (first | refine kdN ?_ _ | refine kd1 ?_ | refine kal ?_ _)); refine blk_put (cs := #[.int .i64 0, .int .i64 0, .int .i64 0, .int .u32 0, .int .i64 0]) ?_ 1 _ rfl; (with_reducible repeat (first | refine kdN ?_ _ | refine kd1 ?_ | refine kal ?_ _)); refine blk_put (cs := #[.int .i64 0, .int .i64 0, .int .i64 0, .int .u32 0, .int .i64 0]) ?_ 0 _ rfl; (with_reducible repeat (first | refine kdN ?_ _ | refine kd1 ?_ | refine kal ?_ _)); exact BK152.out) Try.underlying24 rfl (by kernel_rfl)) rfl ?_
              exact ⟨by first | rfl | (simp [errW_none, errW_some] <;> rfl) | (simp [*, errW_none, errW_some] <;> rfl), by repeat (first | (with_reducible first | exact HB.out | apply bal | apply pbN | apply bd1 | refine bst ?_ GE152.out | refine bst ?_ GE177.out) | exact HB.out)⟩
            ·rw [if_neg c27] at H
             exact absurd H (by simp)
           ·rw [if_neg c26] at H
            exact absurd H (by simp)
          ·rw [if_neg c25] at H
           exact absurd H (by simp)
      ·rw [if_neg c12] at H
       exact absurd H (by simp)
     ·rw [if_neg c10] at H
      exact absurd H (by simp)
    ·replace c9 := Bool.eq_false_iff.mpr c9
     subst c9
     have H1 : (some (0, 0, 0, 0, 0, 8)) = some (r1, r2, r3, r4, r5, r6) := by rw [if_neg (show ¬ (false = true) by decide)] at H; exact H
     clear H
     have H := H1
     clear H1
     simp only [Option.some.injEq, Prod.mk.injEq] at H
     obtain ⟨rfl, rfl, rfl, rfl, rfl, rfl⟩ := H
     go_wp2_with (first | ((with_reducible refine gate_callee (f := 30) rfl ?_); refine goesL_ (some 19) rfl rfl Try.func30 (by kernel_rfl) rfl #[.slice A0 l0.length c0] rfl (by (try simp only [List.map_toArray, List.map_cons, List.map_nil]); first | done | rfl | (simp only [List.length_drop, List.length_take]; rfl)) ?_; (with_reducible refine (frame_open.calls kj1 _ _ l0 false _ ?side1 ?side2 A8.out).mono ?_); (case side1 => repeat (first | exact (Kd.C_below HR0.out HB.out) | (with_reducible refine Kd.C_alloc ?_ _) | (with_reducible refine Kd.C_drewN ?_ _) | (with_reducible refine Kd.C_drew ?_))); (case side2 => exact HC0.out); rintro e w' ⟨rfl, ⟨nd, rfl⟩⟩; refine ⟨_, rfl, ?_⟩; (try (rw [drewN_self wc]; generalize hq_ : World.drewN wc _ = wc; have n0_ : Azz (wc.heap[gb152]? = some (.cells #[.int .i64 0, .int .i64 0, .int .i64 0, .int .u32 0, .int .i64 0] 24 (0, 0))) := ⟨by rw [← hq_]; exact (by (with_reducible repeat (first | refine kdN ?_ _ | refine kd1 ?_ | refine kal ?_ _)); exact BK152.out)⟩; have n1_ : Azz (Below w.heap.size w wc) := ⟨by rw [← hq_]; exact (by repeat (first | (with_reducible first | exact HB.out | apply bal | apply pbN | apply bd1 | refine bst ?_ GE152.out) | exact HB.out))⟩; clear BK152 HB hq_; have BK152 := n0_; have HB := n1_; clear n0_ n1_)); have hcz58_0 : World.cell? _ ⟨gb152, 0, none⟩ = some (.int .i64 0) := (kcl BK152.out 0).trans rfl; have hcz58_1 : World.cell? _ ⟨gb152, 1, none⟩ = some (.int .i64 0) := (kcl BK152.out 1).trans rfl; have hcz58_2 : World.cell? _ ⟨gb152, 2, none⟩ = some (.int .i64 0) := (kcl BK152.out 2).trans rfl; have hcz58_3 : World.cell? _ ⟨gb152, 3, none⟩ = some (.int .u32 0) := (kcl BK152.out 3).trans rfl; have hcz58_4 : World.cell? _ ⟨gb152, 4, none⟩ = some (.int .i64 0) := (kcl BK152.out 4).trans rfl; have hfz58_0 := kfz BK152.out 0; have hfz58_1 := kfz BK152.out 1; have hfz58_2 := kfz BK152.out 2; have hfz58_3 := kfz BK152.out 3; have hfz58_4 := kfz BK152.out 4))
     refine bodyPost_ret (results_ct rfl _ _ gb152 24 #[.int .i64 0, .int .i64 0, .int .i64 0, .int .u32 0, .int .i64 0] (0, 0) _ rfl (by (with_reducible repeat (first | refine kdN ?_ _ | refine kd1 ?_ | refine kal ?_ _)); refine blk_put (cs := #[.int .i64 0, .int .i64 0, .int .i64 0, .int .u32 0, .int .i64 0]) ?_ 4 _ rfl; (with_reducible repeat (first | refine kdN ?_ _ | refine kd1 ?_ | refine kal ?_ _)); refine blk_put (cs := #[.int .i64 0, .int .i64 0, .int .i64 0, .int .u32 0, .int .i64 0]) ?_ 3 _ rfl; (with_reducible repeat (first | refine kdN ?_ _ | refine kd1 ?_ | refine kal ?_ _)); refine blk_put (cs := #[.int .i64 0, .int .i64 0, .int .i64 0, .int .u32 0, .int .i64 0]) ?_ 2 _ rfl; (with_reducible repeat (first | refine kdN ?_ _ | refine kd1 ?_ | refine kal ?_ _)); refine blk_put (cs := #[.int .i64 0, .int .i64 0, .int .i64 0, .int .u32 0, .int .i64 0]) ?_ 1 _ rfl; (with_reducible repeat (first | refine kdN ?_ _ | refine kd1 ?_ | refine kal ?_ _)); refine blk_put (cs := #[.int .i64 0, .int .i64 0, .int .i64 0, .int .u32 0, .int .i64 0]) ?_ 0 _ rfl; (with_reducible repeat (first | refine kdN ?_ _ | refine kd1 ?_ | refine kal ?_ _)); exact BK152.out) Try.underlying24 rfl (by kernel_rfl)) rfl ?_
     exact ⟨by first | rfl | (simp [errW_none, errW_some] <;> rfl) | (simp [*, errW_none, errW_some] <;> rfl), by repeat (first | (with_reducible first | exact HB.out | apply bal | apply pbN | apply bd1 | refine bst ?_ GE152.out) | exact HB.out)⟩

end Go.Proofs.Ytgeheedfmdlefaa.PF
end

section
namespace Go.Proofs.Ytgeheedfmdlefaa.PF
open Go.RowKit Go.Proofs.YtgeheedfmdlefaaW.PrintWords Go.Proofs.YtgeheedfmdlefaaW.PrintLast Go.Proofs.YtgeheedfmdlefaaW.PrintMore Go.Proofs.Ytgeheedfmdlefaa.Conv
attribute [local go_sem] max2_int min2_int max_two min_two max_three min_three max_four min_four   -- for this text's walks alone
set_option linter.unusedVariables false
set_option linter.unusedSimpArgs false

/-! ### frame_rightData: function 34 -/
def frame_rightData.f (a0_0 : Int) (a0_1 : Int) (a0_2 : Int) (a0_3 : ByteArray) (a0_4 : Int) : Option (Bool) := (frame_within.f a0_0 1 3).bind fun t180 => (if t180 = true then ((frame_within.f a0_1 0 255).bind fun t181 => (if t181 = true then ((frame_within.f a0_2 0 2147483647).bind fun t182 => (if t182 = true then ((frame_within.f a0_4 64 1518).bind fun t183 => (if t183 = true then (some (decide ((a0_3.size : Int) ≤ (wrap64 ((wrap64 (a0_4 - 10)) - 4))))) else (some false))) else (some false))) else (some false))) else (some false))
set_option maxHeartbeats 8000000 in
set_option maxRecDepth 100000 in
theorem frame_rightData.calls (a0_0 : Int) (a0_1 : Int) (a0_2 : Int) (a0_3 : ByteArray) (a0_4 : Int) (r : Bool) (w : World) (h : frame_rightData.f a0_0 a0_1 a0_2 a0_3 a0_4 = some r) :
  Calls Try.prog 34 #[.agg #[.int .i64 a0_0, .int .i64 a0_1, .int .i64 a0_2, .string a0_3, .int .i64 a0_4]] w fun e w' => e = .returned (.bool r) ∧ Below w.heap.size w w' := by
 have hu36 := Try.underlying36
 have HB := Azz.mk (Below.refl w.heap.size w)
 have H : ((frame_within.f a0_0 1 3).bind fun t180 => (if t180 = true then ((frame_within.f a0_1 0 255).bind fun t181 => (if t181 = true then ((frame_within.f a0_2 0 2147483647).bind fun t182 => (if t182 = true then ((frame_within.f a0_4 64 1518).bind fun t183 => (if t183 = true then (some (decide ((a0_3.size : Int) ≤ (wrap64 ((wrap64 (a0_4 - 10)) - 4))))) else (some false))) else (some false))) else (some false))) else (some false))) = some r := h
 clear h
 replace H := Option.bind_eq_some_iff.mp H
 obtain ⟨t180, A20, H⟩ := H
 replace H : (if t180 = true then ((frame_within.f a0_1 0 255).bind fun t181 => (if t181 = true then ((frame_within.f a0_2 0 2147483647).bind fun t182 => (if t182 = true then ((frame_within.f a0_4 64 1518).bind fun t183 => (if t183 = true then (some (decide ((a0_3.size : Int) ≤ (wrap64 ((wrap64 (a0_4 - 10)) - 4))))) else (some false))) else (some false))) else (some false))) else (some false)) = some r := H
 have A2 := Azz.mk A20
 clear A20
 by_cases c3 : t180 = true
 ·subst c3
  have H1 : ((frame_within.f a0_1 0 255).bind fun t181 => (if t181 = true then ((frame_within.f a0_2 0 2147483647).bind fun t182 => (if t182 = true then ((frame_within.f a0_4 64 1518).bind fun t183 => (if t183 = true then (some (decide ((a0_3.size : Int) ≤ (wrap64 ((wrap64 (a0_4 - 10)) - 4))))) else (some false))) else (some false))) else (some false))) = some r := by rw [if_pos rfl] at H; exact H
  clear H
  have H := H1
  clear H1
  replace H := Option.bind_eq_some_iff.mp H
  obtain ⟨t181, A40, H⟩ := H
  replace H : (if t181 = true then ((frame_within.f a0_2 0 2147483647).bind fun t182 => (if t182 = true then ((frame_within.f a0_4 64 1518).bind fun t183 => (if t183 = true then (some (decide ((a0_3.size : Int) ≤ (wrap64 ((wrap64 (a0_4 - 10)) - 4))))) else (some false))) else (some false))) else (some false)) = some r := H
  have A4 := Azz.mk A40
  clear A40
  by_cases c5 : t181 = true
  ·subst c5
   have H1 : ((frame_within.f a0_2 0 2147483647).bind fun t182 => (if t182 = true then ((frame_within.f a0_4 64 1518).bind fun t183 => (if t183 = true then (some (decide ((a0_3.size : Int) ≤ (wrap64 ((wrap64 (a0_4 - 10)) - 4))))) else (some false))) else (some false))) = some r := by rw [if_pos rfl] at H; exact H
   clear H
   have H := H1
   clear H1
   replace H := Option.bind_eq_some_iff.mp H
   obtain ⟨t182, A60, H⟩ := H
   replace H : (if t182 = true then ((frame_within.f a0_4 64 1518).bind fun t183 => (if t183 = true then (some (decide ((a0_3.size : Int) ≤ (wrap64 ((wrap64 (a0_4 - 10)) - 4))))) else (some false))) else (some false)) = some r := H
   have A6 := Azz.mk A60
   clear A60
   by_cases c7 : t182 = true
   ·subst c7
    have H1 : ((frame_within.f a0_4 64 1518).bind fun t183 => (if t183 = true then (some (decide ((a0_3.size : Int) ≤ (wrap64 ((wrap64 (a0_4 - 10)) - 4))))) else (some false))) = some r := by rw [if_pos rfl] at H; exact H
    clear H
    have H := H1
    clear H1
    replace H := Option.bind_eq_some_iff.mp H
    obtain ⟨t183, A80, H⟩ := H
    replace H : (if t183 = true then (some (decide ((a0_3.size : Int) ≤ (wrap64 ((wrap64 (a0_4 - 10)) - 4))))) else (some false)) = some r := H
    have A8 := Azz.mk A80
    clear A80
    by_cases c9 : t183 = true
    ·subst c9
     have H1 : (some (decide ((a0_3.size : Int) ≤ (wrap64 ((wrap64 (a0_4 - 10)) - 4))))) = some r := by rw [if_pos rfl] at H; exact H
     clear H
     have H := H1
     clear H1
     obtain rfl := Option.some.inj H
     go_enter Try.func34, Try.ntmps34
     go_wp2_with (first | ((with_reducible refine gate_dst (N := 1) rfl ?_); (try (refine gate_guard (by rfl) ?_; dsimp only)); refine box_event ?hg (N := 1) ?hd (cs := #[.int .i64 a0_0, .int .i64 a0_1, .int .i64 a0_2, .string a0_3, .int .i64 a0_4]) (t := 36) ?hr ?_; (case hd => rfl); (case hg => rfl); (case hr => first | (go_simp; done) | (go_simp; rfl)); intro gb179 hg w10 hbox hb; have n0_ := Azz.mk (below_step (by repeat (first | (with_reducible first | exact HB.out | apply bal | apply pbN | apply bd1) | exact HB.out)) hb); have n1_ := Azz.mk (hbox); have n2_ := Azz.mk ((by rw [hg]; exact (below_size (by repeat (first | (with_reducible first | exact HB.out | apply bal | apply pbN | apply bd1) | exact HB.out))) : w.heap.size ≤ gb179)); have n3_ := Azz.mk ((by rw [hg]; exact (below_size (by repeat (first | (with_reducible first | exact HB.out | apply bal | apply pbN | apply bd1) | exact HB.out))) : w.heap.size ≤ gb179)); clear HB; have HB := n0_; have BK179 := n1_; have GW179 := n2_; have GE179 := n3_; clear n0_ n1_ n2_ n3_; clear hb hbox hg; have hcz11_0 : World.cell? _ ⟨gb179, 0, none⟩ = some (.int .i64 a0_0) := (kcl BK179.out 0).trans rfl; have hcz11_1 : World.cell? _ ⟨gb179, 1, none⟩ = some (.int .i64 a0_1) := (kcl BK179.out 1).trans rfl; have hcz11_2 : World.cell? _ ⟨gb179, 2, none⟩ = some (.int .i64 a0_2) := (kcl BK179.out 2).trans rfl; have hcz11_3 : World.cell? _ ⟨gb179, 3, none⟩ = some (.string a0_3) := (kcl BK179.out 3).trans rfl; have hcz11_4 : World.cell? _ ⟨gb179, 4, none⟩ = some (.int .i64 a0_4) := (kcl BK179.out 4).trans rfl; have hfz11_0 := kfz BK179.out 0; have hfz11_1 := kfz BK179.out 1; have hfz11_2 := kfz BK179.out 2; have hfz11_3 := kfz BK179.out 3; have hfz11_4 := kfz BK179.out 4) | ((with_reducible refine gate_callee (f := 38) rfl ?_); refine goesL_ (some 5) rfl rfl Try.func38 (by kernel_rfl) rfl #[.int .i64 a0_0, .int .i64 1, .int .i64 3] rfl (by (try simp only [List.map_toArray, List.map_cons, List.map_nil]); first | done | rfl | (simp only [List.length_drop, List.length_take]; rfl)) ?_; (with_reducible refine (frame_within.calls a0_0 1 3 true _ A2.out).mono ?_); rintro e w' ⟨rfl, ⟨nd, rfl⟩⟩; refine ⟨_, rfl, ?_⟩) | (go_at_call 38; (with_reducible refine (frame_within.calls a0_1 0 255 true _ A4.out).mono ?_); rintro e w' ⟨rfl, ⟨nd, rfl⟩⟩) | (go_at_call 38; (with_reducible refine (frame_within.calls a0_2 0 2147483647 true _ A6.out).mono ?_); rintro e w' ⟨rfl, ⟨nd, rfl⟩⟩) | (go_at_call 38; (with_reducible refine (frame_within.calls a0_4 64 1518 true _ A8.out).mono ?_); rintro e w' ⟨rfl, ⟨nd, rfl⟩⟩))
     go_ret
     exact ⟨by first | rfl | (simp [errW_none, errW_some] <;> rfl) | (simp [*, errW_none, errW_some] <;> rfl), by repeat (first | (with_reducible first | exact HB.out | apply bal | apply pbN | apply bd1 | refine bst ?_ GE179.out) | exact HB.out)⟩
    ·replace c9 := Bool.eq_false_iff.mpr c9
     subst c9
     have H1 : (some false) = some r := by rw [if_neg (show ¬ (false = true) by decide)] at H; exact H
     clear H
     have H := H1
     clear H1
     obtain rfl := Option.some.inj H
     go_enter Try.func34, Try.ntmps34
     go_wp2_with (first | ((with_reducible refine gate_dst (N := 1) rfl ?_); (try (refine gate_guard (by rfl) ?_; dsimp only)); refine box_event ?hg (N := 1) ?hd (cs := #[.int .i64 a0_0, .int .i64 a0_1, .int .i64 a0_2, .string a0_3, .int .i64 a0_4]) (t := 36) ?hr ?_; (case hd => rfl); (case hg => rfl); (case hr => first | (go_simp; done) | (go_simp; rfl)); intro gb179 hg w12 hbox hb; have n0_ := Azz.mk (below_step (by repeat (first | (with_reducible first | exact HB.out | apply bal | apply pbN | apply bd1) | exact HB.out)) hb); have n1_ := Azz.mk (hbox); have n2_ := Azz.mk ((by rw [hg]; exact (below_size (by repeat (first | (with_reducible first | exact HB.out | apply bal | apply pbN | apply bd1) | exact HB.out))) : w.heap.size ≤ gb179)); have n3_ := Azz.mk ((by rw [hg]; exact (below_size (by repeat (first | (with_reducible first | exact HB.out | apply bal | apply pbN | apply bd1) | exact HB.out))) : w.heap.size ≤ gb179)); clear HB; have HB := n0_; have BK179 := n1_; have GW179 := n2_; have GE179 := n3_; clear n0_ n1_ n2_ n3_; clear hb hbox hg; have hcz13_0 : World.cell? _ ⟨gb179, 0, none⟩ = some (.int .i64 a0_0) := (kcl BK179.out 0).trans rfl; have hcz13_1 : World.cell? _ ⟨gb179, 1, none⟩ = some (.int .i64 a0_1) := (kcl BK179.out 1).trans rfl; have hcz13_2 : World.cell? _ ⟨gb179, 2, none⟩ = some (.int .i64 a0_2) := (kcl BK179.out 2).trans rfl; have hcz13_3 : World.cell? _ ⟨gb179, 3, none⟩ = some (.string a0_3) := (kcl BK179.out 3).trans rfl; have hcz13_4 : World.cell? _ ⟨gb179, 4, none⟩ = some (.int .i64 a0_4) := (kcl BK179.out 4).trans rfl; have hfz13_0 := kfz BK179.out 0; have hfz13_1 := kfz BK179.out 1; have hfz13_2 := kfz BK179.out 2; have hfz13_3 := kfz BK179.out 3; have hfz13_4 := kfz BK179.out 4) | ((with_reducible refine gate_callee (f := 38) rfl ?_); refine goesL_ (some 5) rfl rfl Try.func38 (by kernel_rfl) rfl #[.int .i64 a0_0, .int .i64 1, .int .i64 3] rfl (by (try simp only [List.map_toArray, List.map_cons, List.map_nil]); first | done | rfl | (simp only [List.length_drop, List.length_take]; rfl)) ?_; (with_reducible refine (frame_within.calls a0_0 1 3 true _ A2.out).mono ?_); rintro e w' ⟨rfl, ⟨nd, rfl⟩⟩; refine ⟨_, rfl, ?_⟩) | (go_at_call 38; (with_reducible refine (frame_within.calls a0_1 0 255 true _ A4.out).mono ?_); rintro e w' ⟨rfl, ⟨nd, rfl⟩⟩) | (go_at_call 38; (with_reducible refine (frame_within.calls a0_2 0 2147483647 true _ A6.out).mono ?_); rintro e w' ⟨rfl, ⟨nd, rfl⟩⟩) | (go_at_call 38; (with_reducible refine (frame_within.calls a0_4 64 1518 false _ A8.out).mono ?_); rintro e w' ⟨rfl, ⟨nd, rfl⟩⟩))
     go_ret
     exact ⟨by first | rfl | (simp [errW_none, errW_some] <;> rfl) | (simp [*, errW_none, errW_some] <;> rfl), by repeat (first | (with_reducible first | exact HB.out | apply bal | apply pbN | apply bd1 | refine bst ?_ GE179.out) | exact HB.out)⟩
   ·replace c7 := Bool.eq_false_iff.mpr c7
    subst c7
    have H1 : (some false) = some r := by rw [if_neg (show ¬ (false = true) by decide)] at H; exact H
    clear H
    have H := H1
    clear H1
    obtain rfl := Option.some.inj H
    go_enter Try.func34, Try.ntmps34
    go_wp2_with (first | ((with_reducible refine gate_dst (N := 1) rfl ?_); (try (refine gate_guard (by rfl) ?_; dsimp only)); refine box_event ?hg (N := 1) ?hd (cs := #[.int .i64 a0_0, .int .i64 a0_1, .int .i64 a0_2, .string a0_3, .int .i64 a0_4]) (t := 36) ?hr ?_; (case hd => rfl); (case hg => rfl); (case hr => first | (go_simp; done) | (go_simp; rfl)); intro gb179 hg w14 hbox hb; have n0_ := Azz.mk (below_step (by repeat (first | (with_reducible first | exact HB.out | apply bal | apply pbN | apply bd1) | exact HB.out)) hb); have n1_ := Azz.mk (hbox); have n2_ := Azz.mk ((by rw [hg]; exact (below_size (by repeat (first | (with_reducible first | exact HB.out | apply bal | apply pbN | apply bd1) | exact HB.out))) : w.heap.size ≤ gb179)); have n3_ := Azz.mk ((by rw [hg]; exact (below_size (by repeat (first | (with_reducible first | exact HB.out | apply bal | apply pbN | apply bd1) | exact HB.out))) : w.heap.size ≤ gb179)); clear HB; have HB := n0_; have BK179 := n1_; have GW179 := n2_; have GE179 := n3_; clear n0_ n1_ n2_ n3_; clear hb hbox hg; have hcz15_0 : World.cell? _ ⟨gb179, 0, none⟩ = some (.int .i64 a0_0) := (kcl BK179.out 0).trans rfl; have hcz15_1 : World.cell? _ ⟨gb179, 1, none⟩ = some (.int .i64 a0_1) := (kcl BK179.out 1).trans rfl; have hcz15_2 : World.cell? _ ⟨gb179, 2, none⟩ = some (.int .i64 a0_2) := (kcl BK179.out 2).trans rfl; have hcz15_3 : World.cell? _ ⟨gb179, 3, none⟩ = some (.string a0_3) := (kcl BK179.out 3).trans rfl; have hcz15_4 : World.cell? _ ⟨gb179, 4, none⟩ = some (.int .i64 a0_4) := (kcl BK179.out 4).trans rfl; have hfz15_0 := kfz BK179.out 0; have hfz15_1 := kfz BK179.out 1; have hfz15_2 := kfz BK179.out 2; have hfz15_3 := kfz BK179.out 3; have hfz15_4 := kfz BK179.out 4) | ((with_reducible refine gate_callee (f := 38) rfl ?_); refine goesL_ (some 5) rfl rfl Try.func38 (by kernel_rfl) rfl #[.int .i64 a0_0, .int .i64 1, .int .i64 3] rfl (by (try simp only [List.map_toArray, List.map_cons, List.map_nil]); first | done | rfl | (simp only [List.length_drop, List.length_take]; rfl)) ?_; (with_reducible refine (frame_within.calls a0_0 1 3 true _ A2.out).mono ?_); rintro e w' ⟨rfl, ⟨nd, rfl⟩⟩; refine ⟨_, rfl, ?_⟩) | (go_at_call 38; (with_reducible refine (frame_within.calls a0_1 0 255 true _ A4.out).mono ?_); rintro e w' ⟨rfl, ⟨nd, rfl⟩⟩) | (go_at_call 38; (with_reducible refine (frame_within.calls a0_2 0 2147483647 false _ A6.out).mono ?_); rintro e w' ⟨rfl, ⟨nd, rfl⟩⟩))
    go_ret
    exact ⟨by first | rfl | (simp [errW_none, errW_some] <;> rfl) | (simp [*, errW_none, errW_some] <;> rfl), by repeat (first | (with_reducible first | exact HB.out | apply bal | apply pbN | apply bd1 | refine bst ?_ GE179.out) | exact HB.out)⟩
  ·replace c5 := Bool.eq_false_iff.mpr c5
   subst c5
   have H1 : (some false) = some r := by rw [if_neg (show ¬ (false = true) by decide)] at H; exact H
   clear H
   have H := H1
   clear H1
   obtain rfl := Option.some.inj H
   go_enter Try.func34, Try.ntmps34
   go_wp2_with (first | ((with_reducible refine gate_dst (N := 1) rfl ?_); (try (refine gate_guard (by rfl) ?_; dsimp only)); refine box_event ?hg (N := 1) ?hd (cs := #[.int .i64 a0_0, .int .i64 a0_1, .int .i64 a0_2, .string a0_3, .int .i64 a0_4]) (t := 36) ?hr ?_; (case hd => rfl); (case hg => rfl); (case hr => first | (go_simp; done) | (go_simp; rfl)); intro gb179 hg w16 hbox hb; have n0_ := Azz.mk (below_step (by repeat (first | (with_reducible first | exact HB.out | apply bal | apply pbN | apply bd1) | exact HB.out)) hb); have n1_ := Azz.mk (hbox); have n2_ := Azz.mk ((by rw [hg]; exact (below_size (by repeat (first | (with_reducible first | exact HB.out | apply bal | apply pbN | apply bd1) | exact HB.out))) : w.heap.size ≤ gb179)); have n3_ := Azz.mk ((by rw [hg]; exact (below_size (by repeat (first | (with_reducible first | exact HB.out | apply bal | apply pbN | apply bd1) | exact HB.out))) : w.heap.size ≤ gb179)); clear HB; have HB := n0_; have BK179 := n1_; have GW179 := n2_; have GE179 := n3_; clear n0_ n1_ n2_ n3_; clear hb hbox hg; have hcz17_0 : World.cell? _ ⟨gb179, 0, none⟩ = some (.int .i64 a0_0) := (kcl BK179.out 0).trans rfl; have hcz17_1 : World.cell? _ ⟨gb179, 1, none⟩ = some (.int .i64 a0_1) := (kcl BK179.out 1).trans rfl; have hcz17_2 : World.cell? _ ⟨gb179, 2, none⟩ = some (.int .i64 a0_2) := (kcl BK179.out 2).trans rfl; have hcz17_3 : World.cell? _ ⟨gb179, 3, none⟩ = some (.string a0_3) := (kcl BK179.out 3).trans rfl; have hcz17_4 : World.cell? _ ⟨gb179, 4, none⟩ = some (.int .i64 a0_4) := (kcl BK179.out 4).trans rfl; have hfz17_0 := kfz BK179.out 0; have hfz17_1 := kfz BK179.out 1; have hfz17_2 := kfz BK179.out 2; have hfz17_3 := kfz BK179.out 3; have hfz17_4 := kfz BK179.out 4) | ((with_reducible refine gate_callee (f := 38) rfl ?_); refine goesL_ (some 5) rfl rfl Try.func38 (by kernel_rfl) rfl #[.int .i64 a0_0, .int .i64 1, .int .i64 3] rfl (by (try simp only [List.map_toArray, List.map_cons, List.map_nil]); first | done | rfl | (simp only [List.length_drop, List.length_take]; rfl)) ?_; (with_reducible refine (frame_within.calls a0_0 1 3 true _ A2.out).mono ?_); rintro e w' ⟨rfl, ⟨nd, rfl⟩⟩; refine ⟨_, rfl, ?_⟩) | (go_at_call 38; (with_reducible refine (frame_within.calls a0_1 0 255 false _ A4.out).mono ?_); rintro e w' ⟨rfl, ⟨nd, rfl⟩⟩))
   go_ret
   exact ⟨by first | rfl | (simp [errW_none, errW_some] <;> rfl) | (simp [*, errW_none, errW_some] <;> rfl), by repeat (first | (with_reducible first | exact HB.out | apply bal | apply pbN | apply bd1 | refine bst ?_ GE179.out) | exact HB.out)⟩
 ·replace c3 := Bool.eq_false_iff.mpr c3
  subst c3
  have H1 : (some false) = some r := by rw [if_neg (show ¬ (false = true) by decide)] at H; exact H
  clear H
  have H := H1
  clear H1
  obtain rfl := Option.some.inj H
  go_enter Try.func34, Try.ntmps34
  go_wp2_with (first | ((with_reducible refine gate_dst (N := 1) rfl ?_); (try (refine gate_guard (by rfl) ?_; dsimp only)); refine box_event ?hg (N := 1) ?hd (cs := #[.int .i64 a0_0, .int .i64 a0_1, .int .i64 a0_2, .string a0_3, .int .i64 a0_4]) (t := 36) ?hr ?_; (case hd => rfl); (case hg => rfl); (case hr => first | (go_simp; done) | (go_simp; rfl)); intro gb179 hg w18 hbox hb; have n0_ := Azz.mk (below_step (by repeat (first | (with_reducible first | exact HB.out | apply bal | apply pbN | apply bd1) | exact HB.out)) hb); have n1_ := Azz.mk (hbox); have n2_ := Azz.mk ((by rw [hg]; exact (below_size (by repeat (first | (with_reducible first | exact HB.out | apply bal | apply pbN | apply bd1) | exact HB.out))) : w.heap.size ≤ gb179)); have n3_ := Azz.mk ((by rw [hg]; exact (below_size (by repeat (first | (with_reducible first | exact HB.out | apply bal | apply pbN | apply bd1) | exact HB.out))) : w.heap.size ≤ gb179)); clear HB; have HB := n0_; have BK179 := n1_; have GW179 := n2_; have GE179 := n3_; clear n0_ n1_ n2_ n3_; clear hb hbox hg; have hcz19_0 : World.cell? _ ⟨gb179, 0, none⟩ = some (.int .i64 a0_0) := (kcl BK179.out 0).trans rfl; have hcz19_1 : World.cell? _ ⟨gb179, 1, none⟩ = some (.int .i64 a0_1) := (kcl BK179.out 1).trans rfl; have hcz19_2 : World.cell? _ ⟨gb179, 2, none⟩ = some (.int .i64 a0_2) := (kcl BK179.out 2).trans rfl; have hcz19_3 : World.cell? _ ⟨gb179, 3, none⟩ = some (.string a0_3) := (kcl BK179.out 3).trans rfl; have hcz19_4 : World.cell? _ ⟨gb179, 4, none⟩ = some (.int .i64 a0_4) := (kcl BK179.out 4).trans rfl; have hfz19_0 := kfz BK179.out 0; have hfz19_1 := kfz BK179.out 1; have hfz19_2 := kfz BK179.out 2; have hfz19_3 := kfz BK179.out 3; have hfz19_4 := kfz BK179.out 4) | ((with_reducible refine gate_callee (f := 38) rfl ?_); refine goesL_ (some 5) rfl rfl Try.func38 (by kernel_rfl) rfl #[.int .i64 a0_0, .int .i64 1, .int .i64 3] rfl (by (try simp only [List.map_toArray, List.map_cons, List.map_nil]); first | done | rfl | (simp only [List.length_drop, List.length_take]; rfl)) ?_; (with_reducible refine (frame_within.calls a0_0 1 3 false _ A2.out).mono ?_); rintro e w' ⟨rfl, ⟨nd, rfl⟩⟩; refine ⟨_, rfl, ?_⟩))
  go_ret
  exact ⟨by first | rfl | (simp [errW_none, errW_some] <;> rfl) | (simp [*, errW_none, errW_some] <;> rfl), by repeat (first | (with_reducible first | exact HB.out | apply bal | apply pbN | apply bd1 | refine bst ?_ GE179.out) | exact HB.out)⟩

end Go.Proofs.Ytgeheedfmdlefaa.PF
end
