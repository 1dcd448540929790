-- Written by a program for this claim.
import Derived.Test.YtgeheedfmdlefaaPFx0
import Derived.Test.YtgeheedfmdlefaaPFx14
import Derived.Test.YtgeheedfmdlefaaPFx15
namespace Go.Proofs.Ytgeheedfmdlefaa.PF
open Go.RowKit Go.Proofs.YtgeheedfmdlefaaW.PrintWords Go.Proofs.YtgeheedfmdlefaaW.PrintLast Go.Proofs.YtgeheedfmdlefaaW.PrintMore
attribute [local go_sem] max2_int min2_int max_two min_two max_three min_three max_four min_four   -- for this text's walks alone
set_option linter.unusedVariables false
set_option linter.unusedSimpArgs false

/-! ### tocsinref06_Time: function 26 -/
def tocsinref06_Time.f (a0 : Int) : Option (Int) := if a0 < 64 then (some 512) else (if a0 > 1518 then (some 12144) else (some (wrap64 (a0 * 8))))
set_option maxHeartbeats 8000000 in
set_option maxRecDepth 100000 in
theorem tocsinref06_Time.calls (a0 : Int) (r : Int) (w : World) (h : tocsinref06_Time.f a0 = some r) :
    Calls Try.prog 26 #[.int .i64 a0] w fun e w' => e = .returned (.int .i64 r) ∧ Drawn0 w w' := by
  have H : (if a0 < 64 then (some 512) else (if a0 > 1518 then (some 12144) else (some (wrap64 (a0 * 8))))) = some r := h
  clear h
  by_cases c2 : a0 < 64
  · rw [if_pos c2] at H
    have c2b0 : decide (a0 < 64) = true := decide_eq_true c2
    clear c2
    obtain rfl := Option.some.inj H
    go_enter Try.func26, Try.ntmps26
    go_wp2
    go_ret
    exact ⟨by first | rfl | (simp; done) | (simp [*]; done), by repeat (first | exact Drawn0.refl _ | apply Drawn0.step)⟩
  · rw [if_neg c2] at H
    have c2b0 : decide (a0 < 64) = false := decide_eq_false c2
    clear c2
    by_cases c3 : a0 > 1518
    · rw [if_pos c3] at H
      have c3b0 : decide (1518 < a0) = true := decide_eq_true c3
      clear c3
      obtain rfl := Option.some.inj H
      go_enter Try.func26, Try.ntmps26
      go_wp2
      go_ret
      exact ⟨by first | rfl | (simp; done) | (simp [*]; done), by repeat (first | exact Drawn0.refl _ | apply Drawn0.step)⟩
    · rw [if_neg c3] at H
      have c3b0 : decide (1518 < a0) = false := decide_eq_false c3
      clear c3
      obtain rfl := Option.some.inj H
      go_enter Try.func26, Try.ntmps26
      go_wp2
      go_ret
      exact ⟨by first | rfl | (simp; done) | (simp [*]; done), by repeat (first | exact Drawn0.refl _ | apply Drawn0.step)⟩

/-! ### tocsinlaw06_FrameTimes: function 8 -/
def tocsinlaw06_FrameTimes.f (k : Nat) (a0 : Int) (a1 : Int) : Option (Bool) := (tocsinlaw06_fixed.f k).bind fun t564 => (if t564 = true then ((frame_Time.f a0).bind fun t565 => ((frame_Time.f a1).bind fun t566 => ((tocsinref06_Time.f a0).bind fun t567 => (if t565 = t567 then ((tocsinref06_Time.f a1).bind fun t568 => (if t566 = t568 then (if a0 > a1 then (if t565 ≥ 512 then (some (decide (t565 ≤ 12144))) else (none)) else (if t565 ≤ t566 then (if t565 ≥ 512 then (some (decide (t565 ≤ 12144))) else (none)) else (none))) else (none))) else (none))))) else (none))
theorem tocsinlaw06_FrameTimes.mono : ∀ a0 a1 k, LeO (tocsinlaw06_FrameTimes.f k a0 a1) (tocsinlaw06_FrameTimes.f (k + 1) a0 a1) := by
  intro a0 a1 k
  unfold tocsinlaw06_FrameTimes.f
  repeat' first
      | (with_reducible exact tocsinlaw06_fixed.mono _)
      | (with_reducible exact LeO.refl _)
      | (with_reducible exact LeO.none _)
      | (with_reducible refine LeO.ite ?_ ?_)
      | (with_reducible refine LeO.bind ?_ (fun _ => ?_))
      | exact tocsinlaw06_fixed.mono _
      | exact LeO.none _
      | refine LeO.ite ?_ ?_
      | refine LeO.bind ?_ (fun _ => ?_)
set_option maxHeartbeats 8000000 in
set_option maxRecDepth 100000 in
theorem tocsinlaw06_FrameTimes.calls (k : Nat) (a0 : Int) (a1 : Int) (r : Bool) (w : World) (h : tocsinlaw06_FrameTimes.f k a0 a1 = some r) :
    Calls Try.prog 8 #[.int .i64 a0, .int .i64 a1] w fun e w' => e = .returned (.bool r) ∧ Below w.heap.size w w' := by
  have HB := Aside0.mk (Below.refl w.heap.size w)
  have H : ((tocsinlaw06_fixed.f k).bind fun t564 => (if t564 = true then ((frame_Time.f a0).bind fun t565 => ((frame_Time.f a1).bind fun t566 => ((tocsinref06_Time.f a0).bind fun t567 => (if t565 = t567 then ((tocsinref06_Time.f a1).bind fun t568 => (if t566 = t568 then (if a0 > a1 then (if t565 ≥ 512 then (some (decide (t565 ≤ 12144))) else (none)) else (if t565 ≤ t566 then (if t565 ≥ 512 then (some (decide (t565 ≤ 12144))) else (none)) else (none))) else (none))) else (none))))) else (none))) = some r := h
  clear h
  replace H := Option.bind_eq_some_iff.mp H
  obtain ⟨t564, A30, H⟩ := H
  replace H : (if t564 = true then ((frame_Time.f a0).bind fun t565 => ((frame_Time.f a1).bind fun t566 => ((tocsinref06_Time.f a0).bind fun t567 => (if t565 = t567 then ((tocsinref06_Time.f a1).bind fun t568 => (if t566 = t568 then (if a0 > a1 then (if t565 ≥ 512 then (some (decide (t565 ≤ 12144))) else (none)) else (if t565 ≤ t566 then (if t565 ≥ 512 then (some (decide (t565 ≤ 12144))) else (none)) else (none))) else (none))) else (none))))) else (none)) = some r := H
  have A3 := Aside0.mk A30
  clear A30
  by_cases c4 : t564 = true
  · subst c4
    have H1 : ((frame_Time.f a0).bind fun t565 => ((frame_Time.f a1).bind fun t566 => ((tocsinref06_Time.f a0).bind fun t567 => (if t565 = t567 then ((tocsinref06_Time.f a1).bind fun t568 => (if t566 = t568 then (if a0 > a1 then (if t565 ≥ 512 then (some (decide (t565 ≤ 12144))) else (none)) else (if t565 ≤ t566 then (if t565 ≥ 512 then (some (decide (t565 ≤ 12144))) else (none)) else (none))) else (none))) else (none))))) = some r := by rw [if_pos rfl] at H; exact H
    clear H
    have H := H1
    clear H1
    replace H := Option.bind_eq_some_iff.mp H
    obtain ⟨t565, A50, H⟩ := H
    replace H : ((frame_Time.f a1).bind fun t566 => ((tocsinref06_Time.f a0).bind fun t567 => (if t565 = t567 then ((tocsinref06_Time.f a1).bind fun t568 => (if t566 = t568 then (if a0 > a1 then (if t565 ≥ 512 then (some (decide (t565 ≤ 12144))) else (none)) else (if t565 ≤ t566 then (if t565 ≥ 512 then (some (decide (t565 ≤ 12144))) else (none)) else (none))) else (none))) else (none)))) = some r := H
    have A5 := Aside0.mk A50
    clear A50
    replace H := Option.bind_eq_some_iff.mp H
    obtain ⟨t566, A60, H⟩ := H
    replace H : ((tocsinref06_Time.f a0).bind fun t567 => (if t565 = t567 then ((tocsinref06_Time.f a1).bind fun t568 => (if t566 = t568 then (if a0 > a1 then (if t565 ≥ 512 then (some (decide (t565 ≤ 12144))) else (none)) else (if t565 ≤ t566 then (if t565 ≥ 512 then (some (decide (t565 ≤ 12144))) else (none)) else (none))) else (none))) else (none))) = some r := H
    have A6 := Aside0.mk A60
    clear A60
    replace H := Option.bind_eq_some_iff.mp H
    obtain ⟨t567, A70, H⟩ := H
    replace H : (if t565 = t567 then ((tocsinref06_Time.f a1).bind fun t568 => (if t566 = t568 then (if a0 > a1 then (if t565 ≥ 512 then (some (decide (t565 ≤ 12144))) else (none)) else (if t565 ≤ t566 then (if t565 ≥ 512 then (some (decide (t565 ≤ 12144))) else (none)) else (none))) else (none))) else (none)) = some r := H
    have A7 := Aside0.mk A70
    clear A70
    by_cases c8 : t565 = t567
    · rw [if_pos c8] at H
      have c8b0 : (t565 == t567) = true := beq_iff_eq.mpr c8
      have c8b1 : (t565 != t567) = false := bne_eq_false_iff_eq.mpr c8
      clear c8
      replace H := Option.bind_eq_some_iff.mp H
      obtain ⟨t568, A90, H⟩ := H
      replace H : (if t566 = t568 then (if a0 > a1 then (if t565 ≥ 512 then (some (decide (t565 ≤ 12144))) else (none)) else (if t565 ≤ t566 then (if t565 ≥ 512 then (some (decide (t565 ≤ 12144))) else (none)) else (none))) else (none)) = some r := H
      have A9 := Aside0.mk A90
      clear A90
      by_cases c10 : t566 = t568
      · rw [if_pos c10] at H
        have c10b0 : (t566 == t568) = true := beq_iff_eq.mpr c10
        have c10b1 : (t566 != t568) = false := bne_eq_false_iff_eq.mpr c10
        clear c10
        by_cases c11 : a0 > a1
        · rw [if_pos c11] at H
          have c11b0 : decide (a1 < a0) = true := decide_eq_true c11
          clear c11
          by_cases c12 : t565 ≥ 512
          · rw [if_pos c12] at H
            have c12b0 : decide (512 ≤ t565) = true := decide_eq_true c12
            clear c12
            obtain rfl := Option.some.inj H
            go_enter Try.func8, Try.ntmps8
            go_wp2_with (first | ((with_reducible refine gate_callee (f := 11) rfl ?_); refine goesL_ (some 7) rfl rfl Try.func11 (by kernel_rfl) rfl #[] rfl (by (try simp only [List.map_toArray, List.map_cons, List.map_nil]); first | done | rfl | (simp only [List.length_drop, List.length_take]; rfl)) ?_; (with_reducible refine (tocsinlaw06_fixed.calls k  true _ A3.out).mono ?_); rintro e w13 ⟨rfl, hb⟩; refine ⟨_, rfl, ?_⟩; have n0_ := Aside0.mk (below_step (by repeat (first | (with_reducible first | exact HB.out | apply below_alloc | apply pw_below_drewN | apply below_drew1) | exact HB.out)) hb); clear HB; have HB := n0_; clear n0_; (try clear hb); (try clear hb2); (try clear hk); (try clear hi)) | ((with_reducible refine gate_callee (f := 25) rfl ?_); refine goesL_ (some 10) rfl rfl Try.func25 (by kernel_rfl) rfl #[.int .i64 a0] rfl (by (try simp only [List.map_toArray, List.map_cons, List.map_nil]); first | done | rfl | (simp only [List.length_drop, List.length_take]; rfl)) ?_; (with_reducible refine (frame_Time.calls a0 t565 _ A5.out).mono ?_); rintro e w14 ⟨rfl, hb⟩; refine ⟨_, rfl, ?_⟩; have n0_ := Aside0.mk (below_step (by repeat (first | (with_reducible first | exact HB.out | apply below_alloc | apply pw_below_drewN | apply below_drew1) | exact HB.out)) hb); clear HB; have HB := n0_; clear n0_; (try clear hb); (try clear hb2); (try clear hk); (try clear hi)) | ((with_reducible refine gate_callee (f := 25) rfl ?_); refine goesL_ (some 12) rfl rfl Try.func25 (by kernel_rfl) rfl #[.int .i64 a1] rfl (by (try simp only [List.map_toArray, List.map_cons, List.map_nil]); first | done | rfl | (simp only [List.length_drop, List.length_take]; rfl)) ?_; (with_reducible refine (frame_Time.calls a1 t566 _ A6.out).mono ?_); rintro e w15 ⟨rfl, hb⟩; refine ⟨_, rfl, ?_⟩; have n0_ := Aside0.mk (below_step (by repeat (first | (with_reducible first | exact HB.out | apply below_alloc | apply pw_below_drewN | apply below_drew1) | exact HB.out)) hb); clear HB; have HB := n0_; clear n0_; (try clear hb); (try clear hb2); (try clear hk); (try clear hi)) | ((with_reducible refine gate_callee (f := 26) rfl ?_); refine goesL_ (some 15) rfl rfl Try.func26 (by kernel_rfl) rfl #[.int .i64 a0] rfl (by (try simp only [List.map_toArray, List.map_cons, List.map_nil]); first | done | rfl | (simp only [List.length_drop, List.length_take]; rfl)) ?_; (with_reducible refine (tocsinref06_Time.calls a0 t567 _ A7.out).mono ?_); rintro e w' ⟨rfl, ⟨nd, rfl⟩⟩; refine ⟨_, rfl, ?_⟩) | (go_at_call 26; (with_reducible refine (tocsinref06_Time.calls a1 t568 _ A9.out).mono ?_); rintro e w' ⟨rfl, ⟨nd, rfl⟩⟩))
            go_ret
            exact ⟨by first | rfl | (simp [errW_none, errW_some] <;> rfl) | (simp [*, errW_none, errW_some] <;> rfl), by repeat (first | (with_reducible first | exact HB.out | apply below_alloc | apply pw_below_drewN | apply below_drew1) | exact HB.out)⟩
          · rw [if_neg c12] at H
            exact absurd H (by simp)
        · rw [if_neg c11] at H
          have c11b0 : decide (a1 < a0) = false := decide_eq_false c11
          clear c11
          by_cases c16 : t565 ≤ t566
          · rw [if_pos c16] at H
            have c16b0 : decide (t565 ≤ t566) = true := decide_eq_true c16
            clear c16
            by_cases c17 : t565 ≥ 512
            · rw [if_pos c17] at H
              have c17b0 : decide (512 ≤ t565) = true := decide_eq_true c17
              clear c17
              obtain rfl := Option.some.inj H
              go_enter Try.func8, Try.ntmps8
              go_wp2_with (first | ((with_reducible refine gate_callee (f := 11) rfl ?_); refine goesL_ (some 7) rfl rfl Try.func11 (by kernel_rfl) rfl #[] rfl (by (try simp only [List.map_toArray, List.map_cons, List.map_nil]); first | done | rfl | (simp only [List.length_drop, List.length_take]; rfl)) ?_; (with_reducible refine (tocsinlaw06_fixed.calls k  true _ A3.out).mono ?_); rintro e w18 ⟨rfl, hb⟩; refine ⟨_, rfl, ?_⟩; have n0_ := Aside0.mk (below_step (by repeat (first | (with_reducible first | exact HB.out | apply below_alloc | apply pw_below_drewN | apply below_drew1) | exact HB.out)) hb); clear HB; have HB := n0_; clear n0_; (try clear hb); (try clear hb2); (try clear hk); (try clear hi)) | ((with_reducible refine gate_callee (f := 25) rfl ?_); refine goesL_ (some 10) rfl rfl Try.func25 (by kernel_rfl) rfl #[.int .i64 a0] rfl (by (try simp only [List.map_toArray, List.map_cons, List.map_nil]); first | done | rfl | (simp only [List.length_drop, List.length_take]; rfl)) ?_; (with_reducible refine (frame_Time.calls a0 t565 _ A5.out).mono ?_); rintro e w19 ⟨rfl, hb⟩; refine ⟨_, rfl, ?_⟩; have n0_ := Aside0.mk (below_step (by repeat (first | (with_reducible first | exact HB.out | apply below_alloc | apply pw_below_drewN | apply below_drew1) | exact HB.out)) hb); clear HB; have HB := n0_; clear n0_; (try clear hb); (try clear hb2); (try clear hk); (try clear hi)) | ((with_reducible refine gate_callee (f := 25) rfl ?_); refine goesL_ (some 12) rfl rfl Try.func25 (by kernel_rfl) rfl #[.int .i64 a1] rfl (by (try simp only [List.map_toArray, List.map_cons, List.map_nil]); first | done | rfl | (simp only [List.length_drop, List.length_take]; rfl)) ?_; (with_reducible refine (frame_Time.calls a1 t566 _ A6.out).mono ?_); rintro e w20 ⟨rfl, hb⟩; refine ⟨_, rfl, ?_⟩; have n0_ := Aside0.mk (below_step (by repeat (first | (with_reducible first | exact HB.out | apply below_alloc | apply pw_below_drewN | apply below_drew1) | exact HB.out)) hb); clear HB; have HB := n0_; clear n0_; (try clear hb); (try clear hb2); (try clear hk); (try clear hi)) | ((with_reducible refine gate_callee (f := 26) rfl ?_); refine goesL_ (some 15) rfl rfl Try.func26 (by kernel_rfl) rfl #[.int .i64 a0] rfl (by (try simp only [List.map_toArray, List.map_cons, List.map_nil]); first | done | rfl | (simp only [List.length_drop, List.length_take]; rfl)) ?_; (with_reducible refine (tocsinref06_Time.calls a0 t567 _ A7.out).mono ?_); rintro e w' ⟨rfl, ⟨nd, rfl⟩⟩; refine ⟨_, rfl, ?_⟩) | (go_at_call 26; (with_reducible refine (tocsinref06_Time.calls a1 t568 _ A9.out).mono ?_); rintro e w' ⟨rfl, ⟨nd, rfl⟩⟩))
              go_ret
              exact ⟨by first | rfl | (simp [errW_none, errW_some] <;> rfl) | (simp [*, errW_none, errW_some] <;> rfl), by repeat (first | (with_reducible first | exact HB.out | apply below_alloc | apply pw_below_drewN | apply below_drew1) | exact HB.out)⟩
            · rw [if_neg c17] at H
              exact absurd H (by simp)
          · rw [if_neg c16] at H
            exact absurd H (by simp)
      · rw [if_neg c10] at H
        exact absurd H (by simp)
    · rw [if_neg c8] at H
      exact absurd H (by simp)
  · replace c4 := Bool.eq_false_iff.mpr c4
    subst c4
    have H1 : (none) = some r := by rw [if_neg (show ¬ (false = true) by decide)] at H; exact H
    clear H
    have H := H1
    clear H1
    exact absurd H (by simp)

/-- THE ONE PURE STATEMENT of tocsinlaw06_FrameTimes: yours. -/
def tocsinlaw06_FrameTimes.Pure : Prop := ∀ (a0 : Int) (a1 : Int), (Lit.int .i64 a0).wf = true → (Lit.int .i64 a1).wf = true → ∃ k, tocsinlaw06_FrameTimes.f k a0 a1 = some true
theorem tocsinlaw06_FrameTimes.walk (P : tocsinlaw06_FrameTimes.Pure) (a0 : Int) (a1 : Int) (w : World) (w0 : (Lit.int .i64 a0).wf = true) (w1 : (Lit.int .i64 a1).wf = true) :
    Calls Try.prog 8 #[.int .i64 a0, .int .i64 a1] w fun e w' => e = .returned (.bool true) ∧ Below w.heap.size w w' := by
  obtain ⟨k, h⟩ := P a0 a1 w0 w1
  refine (tocsinlaw06_FrameTimes.calls k a0 a1 true w h).mono ?_
  rintro e w' ⟨rfl, hd⟩
  exact ⟨rfl, hd⟩

-- NOT PRINTED: function 9 (tocsinlaw06_FrameKeeps)

end Go.Proofs.Ytgeheedfmdlefaa.PF
