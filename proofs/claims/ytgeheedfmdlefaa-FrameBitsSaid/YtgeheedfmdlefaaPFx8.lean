-- Written by a program for this claim.
import Derived.Test.YtgeheedfmdlefaaPFx0
import Derived.Test.YtgeheedfmdlefaaPFx7
namespace Go.Proofs.Ytgeheedfmdlefaa.PF
open Go.RowKit Go.Proofs.YtgeheedfmdlefaaW.PrintWords Go.Proofs.YtgeheedfmdlefaaW.PrintLast Go.Proofs.YtgeheedfmdlefaaW.PrintMore
attribute [local go_sem] max2_int min2_int max_two min_two max_three min_three max_four min_four   -- for this text's walks alone
set_option linter.unusedVariables false
set_option linter.unusedSimpArgs false

/-! ### frame_Which: function 16 -/
def frame_Which.f (k : Nat) (l0 : List Int) : Option (Int) := if (l0.length : Int) ≥ 2 then (if 2 ≤ (l0.length : Int) then ((frame_get.f k (l0.take 2)).bind fun t141 => (if t141 = 35101 then (some 1) else (if t141 = 2048 then (some 2) else (some 0)))) else (none)) else (some 0)
theorem frame_Which.mono : ∀ a0 k, LeO (frame_Which.f k a0) (frame_Which.f (k + 1) a0) := by
  intro a0 k
  unfold frame_Which.f
  repeat' first
      | (with_reducible exact frame_get.mono _ _)
      | (with_reducible exact LeO.refl _)
      | (with_reducible exact LeO.none _)
      | (with_reducible refine LeO.ite ?_ ?_)
      | (with_reducible refine LeO.bind ?_ (fun _ => ?_))
      | exact frame_get.mono _ _
      | exact LeO.none _
      | refine LeO.ite ?_ ?_
      | refine LeO.bind ?_ (fun _ => ?_)
set_option maxHeartbeats 8000000 in
set_option maxRecDepth 100000 in
theorem frame_Which.calls (k : Nat) (A0 : Option Addr) (c0 : Nat) (l0 : List Int) (r : Int) (w : World) (hr0 : Kd.C (Kd.int .u8) w A0 l0.length l0) (hc0 : l0.length ≤ c0) (h : frame_Which.f k l0 = some r) :
    Calls Try.prog 16 #[.slice A0 l0.length c0] w fun e w' => e = .returned (.int .i64 r) ∧ Drawn0 w w' := by
  have HR0 := Aside0.mk hr0
  have HC0 := Aside0.mk hc0
  clear hr0 hc0
  have H : (if (l0.length : Int) ≥ 2 then (if 2 ≤ (l0.length : Int) then ((frame_get.f k (l0.take 2)).bind fun t141 => (if t141 = 35101 then (some 1) else (if t141 = 2048 then (some 2) else (some 0)))) else (none)) else (some 0)) = some r := h
  clear h
  by_cases c2 : (l0.length : Int) ≥ 2
  · rw [if_pos c2] at H
    have c2b0 : decide (2 ≤ (l0.length : Int)) = true := decide_eq_true c2
    have c2b1 : decide (2 ≤ l0.length) = true := decide_eq_true (by omega)
    clear c2
    by_cases c3 : 2 ≤ (l0.length : Int)
    · rw [if_pos c3] at H
      have c3b0 := eq_true c3
      have c3b1 : decide (2 ≤ (l0.length : Int)) = true := decide_eq_true c3
      clear c3
      obtain ⟨y137, hy137⟩ : ∃ y_ : List Int, y_ = (l0.take 2) := ⟨_, rfl⟩
      replace H : ((frame_get.f k y137).bind fun t141 => (if t141 = 35101 then (some 1) else (if t141 = 2048 then (some 2) else (some 0)))) = some r := by first | (rw [hy137]; with_reducible exact H) | (have H2_ := (Option.bind_some _ _).symm.trans H; rw [hy137]; with_reducible exact H2_) | (have H2_ := (Option.bind_some _ _).symm.trans H; with_reducible exact H2_) | with_reducible exact H | (rw [hy137]; exact H) | exact H
      have Ny137 := Aside0.mk hy137
      clear hy137
      replace H := Option.bind_eq_some_iff.mp H
      obtain ⟨t141, A40, H⟩ := H
      replace H : (if t141 = 35101 then (some 1) else (if t141 = 2048 then (some 2) else (some 0))) = some r := H
      have A4 := Aside0.mk A40
      clear A40
      by_cases c5 : t141 = 35101
      · rw [if_pos c5] at H
        have c5b0 : (t141 == 35101) = true := beq_iff_eq.mpr c5
        have c5b1 : (t141 != 35101) = false := bne_eq_false_iff_eq.mpr c5
        clear c5
        obtain rfl := Option.some.inj H
        have q6 : (2 : Int) ≤ ((l0.length : Int) : Int) := of_decide_eq_true (by first | (with_reducible assumption) | assumption)
        obtain ⟨i06, hi06, _, hsz6, _⟩ := info_parts info5
        have hroom6 : l0.length ≤ c0 := HC0.out
        have hC6 : Kd.C (Kd.int .u8) _ A0 l0.length l0 := HR0.out
        have hcut6 := cut_to (P := Try.prog) 26 5 .i64 Try.underlying26 hi06 A0 l0.length c0 2 (by omega) q6 hroom6
        have hr6 := Kd.C_take (m := 2) hC6 (by omega)
        have hy6 : y137.length = (2 : Int).toNat := (by rw [Ny137.out, List.length_take]; omega)
        rw [← Ny137.out] at hr6
        rw [← hy6] at hcut6
        have HR140 := Aside0.mk hr6
        have HC140 := Aside0.mk (show y137.length ≤ c0 from by omega)
        clear hr6 hC6 hroom6 hi06 hsz6
        have KY6 := Aside0.mk hy6
        clear hy6
        replace q6 := eq_true q6
        go_enter Try.func16, Try.ntmps16
        go_wp2_with (first | ((with_reducible refine gate_callee (f := 31) rfl ?_); refine goesL_ (some 8) rfl rfl Try.func31 (by kernel_rfl) rfl #[.slice A0 y137.length c0] rfl (by (try simp only [List.map_toArray, List.map_cons, List.map_nil]); first | done | rfl | (simp only [List.length_drop, List.length_take]; rfl)) ?_; (with_reducible refine (frame_get.calls k _ _ y137 t141 _ ?side1 ?side2 A4.out).mono ?_); (case side1 => repeat (first | exact HR140.out | (with_reducible refine Kd.C_alloc ?_ _) | (with_reducible refine Kd.C_drewN ?_ _) | (with_reducible refine Kd.C_drew ?_))); (case side2 => exact HC140.out); rintro e w' ⟨rfl, ⟨nd, rfl⟩⟩; refine ⟨_, rfl, ?_⟩))
        go_ret
        exact ⟨by first | rfl | (simp; done) | (simp [*]; done), by repeat (first | exact Drawn0.refl _ | apply Drawn0.step)⟩
      · rw [if_neg c5] at H
        have c5b0 : (t141 == 35101) = false := beq_eq_false_iff_ne.mpr c5
        have c5b1 : (t141 != 35101) = true := bne_iff_ne.mpr c5
        by_cases c7 : t141 = 2048
        · rw [if_pos c7] at H
          have c7b0 : (t141 == 2048) = true := beq_iff_eq.mpr c7
          have c7b1 : (t141 != 2048) = false := bne_eq_false_iff_eq.mpr c7
          clear c7
          obtain rfl := Option.some.inj H
          have q8 : (2 : Int) ≤ ((l0.length : Int) : Int) := of_decide_eq_true (by first | (with_reducible assumption) | assumption)
          obtain ⟨i08, hi08, _, hsz8, _⟩ := info_parts info5
          have hroom8 : l0.length ≤ c0 := HC0.out
          have hC8 : Kd.C (Kd.int .u8) _ A0 l0.length l0 := HR0.out
          have hcut8 := cut_to (P := Try.prog) 26 5 .i64 Try.underlying26 hi08 A0 l0.length c0 2 (by omega) q8 hroom8
          have hr8 := Kd.C_take (m := 2) hC8 (by omega)
          have hy8 : y137.length = (2 : Int).toNat := (by rw [Ny137.out, List.length_take]; omega)
          rw [← Ny137.out] at hr8
          rw [← hy8] at hcut8
          have HR140 := Aside0.mk hr8
          have HC140 := Aside0.mk (show y137.length ≤ c0 from by omega)
          clear hr8 hC8 hroom8 hi08 hsz8
          have KY8 := Aside0.mk hy8
          clear hy8
          replace q8 := eq_true q8
          go_enter Try.func16, Try.ntmps16
          go_wp2_with (first | ((with_reducible refine gate_callee (f := 31) rfl ?_); refine goesL_ (some 8) rfl rfl Try.func31 (by kernel_rfl) rfl #[.slice A0 y137.length c0] rfl (by (try simp only [List.map_toArray, List.map_cons, List.map_nil]); first | done | rfl | (simp only [List.length_drop, List.length_take]; rfl)) ?_; (with_reducible refine (frame_get.calls k _ _ y137 t141 _ ?side1 ?side2 A4.out).mono ?_); (case side1 => repeat (first | exact HR140.out | (with_reducible refine Kd.C_alloc ?_ _) | (with_reducible refine Kd.C_drewN ?_ _) | (with_reducible refine Kd.C_drew ?_))); (case side2 => exact HC140.out); rintro e w' ⟨rfl, ⟨nd, rfl⟩⟩; refine ⟨_, rfl, ?_⟩))
          go_ret
          exact ⟨by first | rfl | (simp; done) | (simp [*]; done), by repeat (first | exact Drawn0.refl _ | apply Drawn0.step)⟩
        · rw [if_neg c7] at H
          have c7b0 : (t141 == 2048) = false := beq_eq_false_iff_ne.mpr c7
          have c7b1 : (t141 != 2048) = true := bne_iff_ne.mpr c7
          obtain rfl := Option.some.inj H
          have q9 : (2 : Int) ≤ ((l0.length : Int) : Int) := of_decide_eq_true (by first | (with_reducible assumption) | assumption)
          obtain ⟨i09, hi09, _, hsz9, _⟩ := info_parts info5
          have hroom9 : l0.length ≤ c0 := HC0.out
          have hC9 : Kd.C (Kd.int .u8) _ A0 l0.length l0 := HR0.out
          have hcut9 := cut_to (P := Try.prog) 26 5 .i64 Try.underlying26 hi09 A0 l0.length c0 2 (by omega) q9 hroom9
          have hr9 := Kd.C_take (m := 2) hC9 (by omega)
          have hy9 : y137.length = (2 : Int).toNat := (by rw [Ny137.out, List.length_take]; omega)
          rw [← Ny137.out] at hr9
          rw [← hy9] at hcut9
          have HR140 := Aside0.mk hr9
          have HC140 := Aside0.mk (show y137.length ≤ c0 from by omega)
          clear hr9 hC9 hroom9 hi09 hsz9
          have KY9 := Aside0.mk hy9
          clear hy9
          replace q9 := eq_true q9
          go_enter Try.func16, Try.ntmps16
          go_wp2_with (first | ((with_reducible refine gate_callee (f := 31) rfl ?_); refine goesL_ (some 8) rfl rfl Try.func31 (by kernel_rfl) rfl #[.slice A0 y137.length c0] rfl (by (try simp only [List.map_toArray, List.map_cons, List.map_nil]); first | done | rfl | (simp only [List.length_drop, List.length_take]; rfl)) ?_; (with_reducible refine (frame_get.calls k _ _ y137 t141 _ ?side1 ?side2 A4.out).mono ?_); (case side1 => repeat (first | exact HR140.out | (with_reducible refine Kd.C_alloc ?_ _) | (with_reducible refine Kd.C_drewN ?_ _) | (with_reducible refine Kd.C_drew ?_))); (case side2 => exact HC140.out); rintro e w' ⟨rfl, ⟨nd, rfl⟩⟩; refine ⟨_, rfl, ?_⟩))
          go_ret
          exact ⟨by first | rfl | (simp; done) | (simp [*]; done), by repeat (first | exact Drawn0.refl _ | apply Drawn0.step)⟩
    · rw [if_neg c3] at H
      exact absurd H (by simp)
  · rw [if_neg c2] at H
    have c2b0 : decide (2 ≤ (l0.length : Int)) = false := decide_eq_false c2
    have c2b1 : decide (2 ≤ l0.length) = false := decide_eq_false (by omega)
    clear c2
    obtain rfl := Option.some.inj H
    go_enter Try.func16, Try.ntmps16
    go_wp2
    go_ret
    exact ⟨by first | rfl | (simp; done) | (simp [*]; done), by repeat (first | exact Drawn0.refl _ | apply Drawn0.step)⟩

end Go.Proofs.Ytgeheedfmdlefaa.PF
