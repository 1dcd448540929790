-- Written by a program for this claim.
import Derived.Test.YtpddklcfkjebgaaPBx0
import Derived.Test.YtpddklcfkjebgaaPBx1
namespace Go.Proofs.Ytpddklcfkjebgaa.PB
open Go.RowKit Go.Proofs.YtpddklcfkjebgaaW.PrintWords Go.Proofs.YtpddklcfkjebgaaW.PrintLast Go.Proofs.YtpddklcfkjebgaaW.PrintMore
attribute [local go_sem] max2_int min2_int max_two min_two max_three min_three max_four min_four   -- for this text's walks alone
set_option linter.unusedVariables false
set_option linter.unusedSimpArgs false

/-! ### tocsinref14_Next: function 13 -/
def tocsinref14_Next.j0 : Nat → Int → Int → Bool → Int → Int → List Int → Int → Option (Int)
  | 0, _, _, _, _, _, _, _ => none
  | k + 1, x1, x5, x22, x165000, x165001, x165002, x165003 => if x22 = true then (if 0 ≤ (wrap64 (x5 - 1)) then (if (wrap64 (x5 - 1)) < (x165002.length : Int) then (if x5 > 0 then (if (rd x165002 (wrap64 (x5 - 1))) < (wrap64 (x165003 - x165001)) then (some (wrap64 (x165003 - x165001))) else (some (rd x165002 (wrap64 (x5 - 1))))) else (some (rd x165002 (wrap64 (x5 - 1))))) else (none)) else (none)) else (if x5 > 0 then (if x1 < (wrap64 (x165003 - x165001)) then (some (wrap64 (x165003 - x165001))) else (some x1)) else (some x1))
def tocsinref14_Next.f (k : Nat) (a0_0 : Int) (a0_1 : Int) (l0_2 : List Int) (a0_3 : Int) (a1 : Int) : Option (Int) := (tocsinref14_Far.f a1).bind fun t165 => (if t165 = true then (some 0) else (if (l0_2.length : Int) > 0 then (if 0 ≤ (wrap64 ((l0_2.length : Int) - 1)) then (if (wrap64 ((l0_2.length : Int) - 1)) < (l0_2.length : Int) then (tocsinref14_Next.j0 k a1 (l0_2.length : Int) (decide (a1 < (rd l0_2 (wrap64 ((l0_2.length : Int) - 1))))) a0_0 a0_1 l0_2 a0_3) else (none)) else (none)) else (tocsinref14_Next.j0 k a1 (l0_2.length : Int) false a0_0 a0_1 l0_2 a0_3)))
theorem tocsinref14_Next.mono_l : ∀ k, (∀ y0 y1 y2 y3 y4 y5 y6, LeO (tocsinref14_Next.j0 k y0 y1 y2 y3 y4 y5 y6) (tocsinref14_Next.j0 (k + 1) y0 y1 y2 y3 y4 y5 y6))
  | 0 => fun _ _ _ _ _ _ _ r h => by simp [tocsinref14_Next.j0] at h
  | k + 1 => by
    have ih0 := tocsinref14_Next.mono_l k
    · intro y0 y1 y2 y3 y4 y5 y6
      unfold tocsinref14_Next.j0
      repeat' first
      | (with_reducible exact ih0 _ _ _ _ _ _ _)
      | (with_reducible exact LeO.refl _)
      | (with_reducible exact LeO.none _)
      | (with_reducible refine LeO.ite ?_ ?_)
      | (with_reducible refine LeO.bind ?_ (fun _ => ?_))
      | exact ih0 _ _ _ _ _ _ _
      | exact LeO.none _
      | refine LeO.ite ?_ ?_
      | refine LeO.bind ?_ (fun _ => ?_)
theorem tocsinref14_Next.mono : ∀ a0 a1 a2 a3 a4 k, LeO (tocsinref14_Next.f k a0 a1 a2 a3 a4) (tocsinref14_Next.f (k + 1) a0 a1 a2 a3 a4) := by
  intro a0 a1 a2 a3 a4 k
  have ih0 := tocsinref14_Next.mono_l k
  unfold tocsinref14_Next.f
  repeat' first
      | (with_reducible exact ih0 _ _ _ _ _ _ _)
      | (with_reducible exact LeO.refl _)
      | (with_reducible exact LeO.none _)
      | (with_reducible refine LeO.ite ?_ ?_)
      | (with_reducible refine LeO.bind ?_ (fun _ => ?_))
      | exact ih0 _ _ _ _ _ _ _
      | exact LeO.none _
      | refine LeO.ite ?_ ?_
      | refine LeO.bind ?_ (fun _ => ?_)
set_option maxHeartbeats 8000000 in
set_option maxRecDepth 100000 in
theorem tocsinref14_Next.calls (k : Nat) (a0_0 : Int) (a0_1 : Int) (A0_2 : Option Addr) (c0_2 : Nat) (l0_2 : List Int) (a0_3 : Int) (a1 : Int) (r : Int) (w : World) (hr0_2 : Kd.C (Kd.int .i64) w A0_2 l0_2.length l0_2) (hc0_2 : l0_2.length ≤ c0_2) (h : tocsinref14_Next.f k a0_0 a0_1 l0_2 a0_3 a1 = some r) :
    Calls Try.prog 13 #[.agg #[.int .i64 a0_0, .int .i64 a0_1, .slice A0_2 l0_2.length c0_2, .int .i64 a0_3], .int .i64 a1] w fun e w' => e = .returned (.int .i64 r) ∧ Below w.heap.size w w' := by
  have hu30 := Try.underlying30
  have HR0_2 := Aside0.mk hr0_2
  have HC0_2 := Aside0.mk hc0_2
  clear hr0_2 hc0_2
  have HB := Aside0.mk (Below.refl w.heap.size w)
  have H : ((tocsinref14_Far.f a1).bind fun t165 => (if t165 = true then (some 0) else (if (l0_2.length : Int) > 0 then (if 0 ≤ (wrap64 ((l0_2.length : Int) - 1)) then (if (wrap64 ((l0_2.length : Int) - 1)) < (l0_2.length : Int) then (tocsinref14_Next.j0 k a1 (l0_2.length : Int) (decide (a1 < (rd l0_2 (wrap64 ((l0_2.length : Int) - 1))))) a0_0 a0_1 l0_2 a0_3) else (none)) else (none)) else (tocsinref14_Next.j0 k a1 (l0_2.length : Int) false a0_0 a0_1 l0_2 a0_3)))) = some r := h
  clear h
  replace H := Option.bind_eq_some_iff.mp H
  obtain ⟨t165, A30, H⟩ := H
  replace H : (if t165 = true then (some 0) else (if (l0_2.length : Int) > 0 then (if 0 ≤ (wrap64 ((l0_2.length : Int) - 1)) then (if (wrap64 ((l0_2.length : Int) - 1)) < (l0_2.length : Int) then (tocsinref14_Next.j0 k a1 (l0_2.length : Int) (decide (a1 < (rd l0_2 (wrap64 ((l0_2.length : Int) - 1))))) a0_0 a0_1 l0_2 a0_3) else (none)) else (none)) else (tocsinref14_Next.j0 k a1 (l0_2.length : Int) false a0_0 a0_1 l0_2 a0_3))) = some r := H
  have A3 := Aside0.mk A30
  clear A30
  by_cases c4 : t165 = true
  · subst c4
    have H1 : (some 0) = some r := by rw [if_pos rfl] at H; exact H
    clear H
    have H := H1
    clear H1
    obtain rfl := Option.some.inj H
    go_enter Try.func13, Try.ntmps13
    go_wp2_with (first | ((with_reducible refine gate_dst (N := 2) rfl ?_); refine box_event ?hg (N := 2) ?hd (cs := #[.int .i64 a0_0, .int .i64 a0_1, .slice A0_2 l0_2.length c0_2, .int .i64 a0_3]) (t := 30) ?hr ?_; (case hd => rfl); (case hg => rfl); (case hr => first | (go_simp; done) | (go_simp; rfl)); intro gb164 hg w5 hbox hb; have n0_ := Aside0.mk (below_step (by repeat (first | (with_reducible first | exact HB.out | apply below_alloc | apply pw_below_drewN | apply below_drew1) | exact HB.out)) hb); have n1_ := Aside0.mk (hbox); have n2_ := Aside0.mk ((by rw [hg]; exact (below_size (by repeat (first | (with_reducible first | exact HB.out | apply below_alloc | apply pw_below_drewN | apply below_drew1) | exact HB.out))) : w.heap.size ≤ gb164)); have n3_ := Aside0.mk ((by rw [hg]; exact (below_size (by repeat (first | (with_reducible first | exact HB.out | apply below_alloc | apply pw_below_drewN | apply below_drew1) | exact HB.out))) : w.heap.size ≤ gb164)); clear HB; have HB := n0_; have BK164 := n1_; have GW164 := n2_; have GE164 := n3_; clear n0_ n1_ n2_ n3_; clear hb hbox hg) | ((with_reducible refine gate_callee (f := 19) rfl ?_); refine goesL_ (some 7) rfl rfl Try.func19 (by kernel_rfl) rfl #[.int .i64 a1] rfl (by (try simp only [List.map_toArray, List.map_cons, List.map_nil]); first | done | rfl | (simp only [List.length_drop, List.length_take]; rfl)) ?_; (with_reducible refine (tocsinref14_Far.calls a1 true _ A3.out).mono ?_); rintro e w' ⟨rfl, ⟨nd, rfl⟩⟩; refine ⟨_, rfl, ?_⟩))
    go_ret
    exact ⟨by first | rfl | (simp [errW_none, errW_some] <;> rfl) | (simp [*, errW_none, errW_some] <;> rfl), by repeat (first | (with_reducible first | exact HB.out | apply below_alloc | apply pw_below_drewN | apply below_drew1 | refine below_set ?_ GE164.out) | exact HB.out)⟩
  · replace c4 := Bool.eq_false_iff.mpr c4
    subst c4
    have H1 : (if (l0_2.length : Int) > 0 then (if 0 ≤ (wrap64 ((l0_2.length : Int) - 1)) then (if (wrap64 ((l0_2.length : Int) - 1)) < (l0_2.length : Int) then (tocsinref14_Next.j0 k a1 (l0_2.length : Int) (decide (a1 < (rd l0_2 (wrap64 ((l0_2.length : Int) - 1))))) a0_0 a0_1 l0_2 a0_3) else (none)) else (none)) else (tocsinref14_Next.j0 k a1 (l0_2.length : Int) false a0_0 a0_1 l0_2 a0_3)) = some r := by rw [if_neg (show ¬ (false = true) by decide)] at H; exact H
    clear H
    have H := H1
    clear H1
    have HC6 := Aside0.mk H
    clear H
    go_enter Try.func13, Try.ntmps13
    go_upto_region 4 with (first | ((with_reducible refine gate_dst (N := 2) rfl ?_); refine box_event ?hg (N := 2) ?hd (cs := #[.int .i64 a0_0, .int .i64 a0_1, .slice A0_2 l0_2.length c0_2, .int .i64 a0_3]) (t := 30) ?hr ?_; (case hd => rfl); (case hg => rfl); (case hr => first | (go_simp; done) | (go_simp; rfl)); intro gb164 hg w7 hbox hb; have n0_ := Aside0.mk (below_step (by repeat (first | (with_reducible first | exact HB.out | apply below_alloc | apply pw_below_drewN | apply below_drew1) | exact HB.out)) hb); have n1_ := Aside0.mk (hbox); have n2_ := Aside0.mk ((by rw [hg]; exact (below_size (by repeat (first | (with_reducible first | exact HB.out | apply below_alloc | apply pw_below_drewN | apply below_drew1) | exact HB.out))) : w.heap.size ≤ gb164)); have n3_ := Aside0.mk ((by rw [hg]; exact (below_size (by repeat (first | (with_reducible first | exact HB.out | apply below_alloc | apply pw_below_drewN | apply below_drew1) | exact HB.out))) : w.heap.size ≤ gb164)); clear HB; have HB := n0_; have BK164 := n1_; have GW164 := n2_; have GE164 := n3_; clear n0_ n1_ n2_ n3_; clear hb hbox hg) | ((with_reducible refine gate_callee (f := 19) rfl ?_); refine goesL_ (some 7) rfl rfl Try.func19 (by kernel_rfl) rfl #[.int .i64 a1] rfl (by (try simp only [List.map_toArray, List.map_cons, List.map_nil]); first | done | rfl | (simp only [List.length_drop, List.length_take]; rfl)) ?_; (with_reducible refine (tocsinref14_Far.calls a1 false _ A3.out).mono ?_); rintro e w' ⟨rfl, ⟨nd, rfl⟩⟩; refine ⟨_, rfl, ?_⟩; have hcz8_0 : w7.cell? ⟨gb164, 0, none⟩ = some (.int .i64 a0_0) := (blk_cell BK164.out 0).trans rfl; have hcz8_1 : w7.cell? ⟨gb164, 1, none⟩ = some (.int .i64 a0_1) := (blk_cell BK164.out 1).trans rfl; have hcz8_2 : w7.cell? ⟨gb164, 2, none⟩ = some (.slice A0_2 l0_2.length c0_2) := (blk_cell BK164.out 2).trans rfl; have hcz8_3 : w7.cell? ⟨gb164, 3, none⟩ = some (.int .i64 a0_3) := (blk_cell BK164.out 3).trans rfl; have hfz8_0 := blk_frozen BK164.out 0; have hfz8_1 := blk_frozen BK164.out 1; have hfz8_2 := blk_frozen BK164.out 2; have hfz8_3 := blk_frozen BK164.out 3))
    (try simp only [Act.put, List.setIfInBounds_toArray, List.set_cons_zero, List.set_cons_succ])
    go_cut [22] (fun v22 wc => ∃ (kq : Nat) (x22_5 : Bool), v22 = .bool x22_5 ∧ Aside0 (tocsinref14_Next.j0 kq a1 (l0_2.length : Int) x22_5 a0_0 a0_1 l0_2 a0_3 = some r) ∧ Aside0 (kq ≤ k) ∧ Aside0 (wc.heap[gb164]? = some (.cells #[.int .i64 a0_0, .int .i64 a0_1, (.slice A0_2 l0_2.length c0_2), .int .i64 a0_3] 30 (0, 0))) ∧ Aside0 (Below w.heap.size w wc))
    case first =>
      have H := HC6.out
      clear HC6
      by_cases c9 : (l0_2.length : Int) > 0
      · rw [if_pos c9] at H
        have c9b0 : decide (0 < (l0_2.length : Int)) = true := decide_eq_true c9
        have c9b1 : decide (0 < l0_2.length) = true := decide_eq_true (by omega)
        clear c9
        (first | rw [c9b0] | (simp only [i64_w, i32_w]; rw [c9b0]) | skip)
        obtain ⟨ji10, hji10⟩ : ∃ j_ : Int, (wrap64 ((l0_2.length : Int) - 1)) = j_ := ⟨_, rfl⟩
        replace H : (if 0 ≤ (ji10) then (if (ji10) < (l0_2.length : Int) then (tocsinref14_Next.j0 k a1 (l0_2.length : Int) (decide (a1 < (rd l0_2 (ji10)))) a0_0 a0_1 l0_2 a0_3) else (none)) else (none)) = some r := by first | (rw [hji10] at H; exact H) | (simp only [hji10] at H ⊢; exact H)
        have hji10w : (IntKind.i64.wrap ((l0_2.length : Int) - 1)) = ji10 := (i64_w _).trans hji10
        by_cases c11 : 0 ≤ (ji10)
        · rw [if_pos c11] at H
          have c11b0 : decide (0 ≤ (ji10)) = true := decide_eq_true c11
          clear c11
          by_cases c12 : (ji10) < (l0_2.length : Int)
          · rw [if_pos c12] at H
            have c12b0 : decide ((ji10) < (l0_2.length : Int)) = true := decide_eq_true c12
            clear c12
            have H' := Aside0.mk H
            clear H
            have hcz13_0 : w7.cell? ⟨gb164, 0, none⟩ = some (.int .i64 a0_0) := (blk_cell BK164.out 0).trans rfl
            have hcz13_1 : w7.cell? ⟨gb164, 1, none⟩ = some (.int .i64 a0_1) := (blk_cell BK164.out 1).trans rfl
            have hcz13_2 : w7.cell? ⟨gb164, 2, none⟩ = some (.slice A0_2 l0_2.length c0_2) := (blk_cell BK164.out 2).trans rfl
            have hcz13_3 : w7.cell? ⟨gb164, 3, none⟩ = some (.int .i64 a0_3) := (blk_cell BK164.out 3).trans rfl
            have hfz13_0 := blk_frozen BK164.out 0
            have hfz13_1 := blk_frozen BK164.out 1
            have hfz13_2 := blk_frozen BK164.out 2
            have hfz13_3 := blk_frozen BK164.out 3
            have p166 : 0 ≤ ((ji10) : Int) := of_decide_eq_true (by first | (with_reducible assumption) | assumption)
            have q166 : (ji10) < (l0_2.length : Int) := of_decide_eq_true (by first | (with_reducible assumption) | assumption)
            obtain ⟨ad166, e166, hx166_0⟩ := Kd.at_int HR0_2.out (ji10) p166 q166
            cases e166
            replace hx166_0 := (HB.out.cell (World.block_lt_of_cell? w _ hx166_0)).trans hx166_0
            replace p166 := eq_true p166
            replace q166 := eq_true q166
            go_wp2
            go_meet
            case rel => exact ⟨_, (decide (a1 < (rd l0_2 (ji10)))), (by first | rfl | (simp; done) | (simp only [← hji10] <;> (first | rfl | simp)) | (simp [*]; done)), H', ⟨by first | omega | exact Nat.le_refl _⟩, ⟨by (with_reducible repeat (first | refine blk_drewN ?_ _ | refine blk_drew ?_ | refine blk_alloc ?_ _)); exact BK164.out⟩, ⟨by repeat (first | (with_reducible first | exact HB.out | apply below_alloc | apply pw_below_drewN | apply below_drew1 | refine below_set ?_ GE164.out) | exact HB.out)⟩⟩
          · rw [if_neg c12] at H
            exact absurd H (by simp)
        · rw [if_neg c11] at H
          exact absurd H (by simp)
      · rw [if_neg c9] at H
        have c9b0 : decide (0 < (l0_2.length : Int)) = false := decide_eq_false c9
        have c9b1 : decide (0 < l0_2.length) = false := decide_eq_false (by omega)
        clear c9
        (first | rw [c9b0] | (simp only [i64_w, i32_w]; rw [c9b0]) | skip)
        have H' := Aside0.mk H
        clear H
        go_wp2
        go_meet
        case rel => exact ⟨_, (false), (by first | rfl | (simp; done) | (simp [*]; done)), H', ⟨by first | omega | exact Nat.le_refl _⟩, ⟨by (with_reducible repeat (first | refine blk_drewN ?_ _ | refine blk_drew ?_ | refine blk_alloc ?_ _)); exact BK164.out⟩, ⟨by repeat (first | (with_reducible first | exact HB.out | apply below_alloc | apply pw_below_drewN | apply below_drew1 | refine below_set ?_ GE164.out) | exact HB.out)⟩⟩
    case rest =>
      clear HC6
      try clear c1
      try clear p1
      try clear q1
      try clear hx1
      try clear p2
      try clear c4
      try clear p6
      try clear c9
      try clear c9b0
      try clear c9b1
      try clear c11
      try clear c11b0
      try clear c12
      try clear c12b0
      try clear c13
      try clear hcz13_0
      try clear hcz13_1
      try clear hcz13_2
      try clear hcz13_3
      try clear hcz8_0
      try clear hcz8_1
      try clear hcz8_2
      try clear hcz8_3
      try clear hfz13_0
      try clear hfz13_1
      try clear hfz13_2
      try clear hfz13_3
      try clear hfz8_0
      try clear hfz8_1
      try clear hfz8_2
      try clear hfz8_3
      try clear hx166_0
      try clear p166
      try clear q166
      obtain ⟨kq, x22_5, rfl, HA, HJ5, BK164, HB⟩ := hcut
      cases kq with
      | zero => exact absurd HA.out (by simp [tocsinref14_Next.j0])
      | succ kj5 =>
        have H := HA.out
        clear HA
        simp only [tocsinref14_Next.j0] at H
        by_cases c14 : x22_5 = true
        · subst c14
          have H1 : (if 0 ≤ (wrap64 ((l0_2.length : Int) - 1)) then (if (wrap64 ((l0_2.length : Int) - 1)) < (l0_2.length : Int) then (if (l0_2.length : Int) > 0 then (if (rd l0_2 (wrap64 ((l0_2.length : Int) - 1))) < (wrap64 (a0_3 - a0_1)) then (some (wrap64 (a0_3 - a0_1))) else (some (rd l0_2 (wrap64 ((l0_2.length : Int) - 1))))) else (some (rd l0_2 (wrap64 ((l0_2.length : Int) - 1))))) else (none)) else (none)) = some r := by rw [if_pos rfl] at H; exact H
          clear H
          have H := H1
          clear H1
          obtain ⟨ji15, hji15⟩ : ∃ j_ : Int, (wrap64 ((l0_2.length : Int) - 1)) = j_ := ⟨_, rfl⟩
          replace H : (if 0 ≤ (ji15) then (if (ji15) < (l0_2.length : Int) then (if (l0_2.length : Int) > 0 then (if (rd l0_2 (ji15)) < (wrap64 (a0_3 - a0_1)) then (some (wrap64 (a0_3 - a0_1))) else (some (rd l0_2 (ji15)))) else (some (rd l0_2 (ji15)))) else (none)) else (none)) = some r := by first | (rw [hji15] at H; exact H) | (simp only [hji15] at H ⊢; exact H)
          have hji15w : (IntKind.i64.wrap ((l0_2.length : Int) - 1)) = ji15 := (i64_w _).trans hji15
          by_cases c16 : 0 ≤ (ji15)
          · rw [if_pos c16] at H
            have c16b0 : decide (0 ≤ (ji15)) = true := decide_eq_true c16
            clear c16
            by_cases c17 : (ji15) < (l0_2.length : Int)
            · rw [if_pos c17] at H
              have c17b0 : decide ((ji15) < (l0_2.length : Int)) = true := decide_eq_true c17
              clear c17
              by_cases c18 : (l0_2.length : Int) > 0
              · rw [if_pos c18] at H
                have c18b0 : decide (0 < (l0_2.length : Int)) = true := decide_eq_true c18
                have c18b1 : decide (0 < l0_2.length) = true := decide_eq_true (by omega)
                clear c18
                by_cases c19 : (rd l0_2 (ji15)) < (wrap64 (a0_3 - a0_1))
                · rw [if_pos c19] at H
                  have c19b0 : decide ((rd l0_2 (ji15)) < (wrap64 (a0_3 - a0_1))) = true := decide_eq_true c19
                  clear c19
                  obtain rfl := Option.some.inj H
                  have hcz20_0 : wc.cell? ⟨gb164, 0, none⟩ = some (.int .i64 a0_0) := (blk_cell BK164.out 0).trans rfl
                  have hcz20_1 : wc.cell? ⟨gb164, 1, none⟩ = some (.int .i64 a0_1) := (blk_cell BK164.out 1).trans rfl
                  have hcz20_2 : wc.cell? ⟨gb164, 2, none⟩ = some (.slice A0_2 l0_2.length c0_2) := (blk_cell BK164.out 2).trans rfl
                  have hcz20_3 : wc.cell? ⟨gb164, 3, none⟩ = some (.int .i64 a0_3) := (blk_cell BK164.out 3).trans rfl
                  have hfz20_0 := blk_frozen BK164.out 0
                  have hfz20_1 := blk_frozen BK164.out 1
                  have hfz20_2 := blk_frozen BK164.out 2
                  have hfz20_3 := blk_frozen BK164.out 3
                  have p167 : 0 ≤ ((ji15) : Int) := of_decide_eq_true (by first | (with_reducible assumption) | assumption)
                  have q167 : (ji15) < (l0_2.length : Int) := of_decide_eq_true (by first | (with_reducible assumption) | assumption)
                  obtain ⟨ad167, e167, hx167_0⟩ := Kd.at_int HR0_2.out (ji15) p167 q167
                  cases e167
                  replace hx167_0 := (HB.out.cell (World.block_lt_of_cell? w _ hx167_0)).trans hx167_0
                  replace p167 := eq_true p167
                  replace q167 := eq_true q167
                  go_wp2
                  go_ret
                  exact ⟨by first | rfl | (simp [errW_none, errW_some] <;> rfl) | (simp only [← hji15]; first | rfl | (simp [errW_none, errW_some] <;> rfl)) | (simp [*, errW_none, errW_some] <;> rfl), by repeat (first | (with_reducible first | exact HB.out | apply below_alloc | apply pw_below_drewN | apply below_drew1 | refine below_set ?_ GE164.out) | exact HB.out)⟩
                · rw [if_neg c19] at H
                  have c19b0 : decide ((rd l0_2 (ji15)) < (wrap64 (a0_3 - a0_1))) = false := decide_eq_false c19
                  clear c19
                  obtain rfl := Option.some.inj H
                  have hcz21_0 : wc.cell? ⟨gb164, 0, none⟩ = some (.int .i64 a0_0) := (blk_cell BK164.out 0).trans rfl
                  have hcz21_1 : wc.cell? ⟨gb164, 1, none⟩ = some (.int .i64 a0_1) := (blk_cell BK164.out 1).trans rfl
                  have hcz21_2 : wc.cell? ⟨gb164, 2, none⟩ = some (.slice A0_2 l0_2.length c0_2) := (blk_cell BK164.out 2).trans rfl
                  have hcz21_3 : wc.cell? ⟨gb164, 3, none⟩ = some (.int .i64 a0_3) := (blk_cell BK164.out 3).trans rfl
                  have hfz21_0 := blk_frozen BK164.out 0
                  have hfz21_1 := blk_frozen BK164.out 1
                  have hfz21_2 := blk_frozen BK164.out 2
                  have hfz21_3 := blk_frozen BK164.out 3
                  have p167 : 0 ≤ ((ji15) : Int) := of_decide_eq_true (by first | (with_reducible assumption) | assumption)
                  have q167 : (ji15) < (l0_2.length : Int) := of_decide_eq_true (by first | (with_reducible assumption) | assumption)
                  obtain ⟨ad167, e167, hx167_0⟩ := Kd.at_int HR0_2.out (ji15) p167 q167
                  cases e167
                  replace hx167_0 := (HB.out.cell (World.block_lt_of_cell? w _ hx167_0)).trans hx167_0
                  replace p167 := eq_true p167
                  replace q167 := eq_true q167
                  go_wp2
                  go_ret
                  exact ⟨by first | rfl | (simp [errW_none, errW_some] <;> rfl) | (simp only [← hji15]; first | rfl | (simp [errW_none, errW_some] <;> rfl)) | (simp [*, errW_none, errW_some] <;> rfl), by repeat (first | (with_reducible first | exact HB.out | apply below_alloc | apply pw_below_drewN | apply below_drew1 | refine below_set ?_ GE164.out) | exact HB.out)⟩
              · rw [if_neg c18] at H
                have c18b0 : decide (0 < (l0_2.length : Int)) = false := decide_eq_false c18
                have c18b1 : decide (0 < l0_2.length) = false := decide_eq_false (by omega)
                clear c18
                obtain rfl := Option.some.inj H
                have hcz22_0 : wc.cell? ⟨gb164, 0, none⟩ = some (.int .i64 a0_0) := (blk_cell BK164.out 0).trans rfl
                have hcz22_1 : wc.cell? ⟨gb164, 1, none⟩ = some (.int .i64 a0_1) := (blk_cell BK164.out 1).trans rfl
                have hcz22_2 : wc.cell? ⟨gb164, 2, none⟩ = some (.slice A0_2 l0_2.length c0_2) := (blk_cell BK164.out 2).trans rfl
                have hcz22_3 : wc.cell? ⟨gb164, 3, none⟩ = some (.int .i64 a0_3) := (blk_cell BK164.out 3).trans rfl
                have hfz22_0 := blk_frozen BK164.out 0
                have hfz22_1 := blk_frozen BK164.out 1
                have hfz22_2 := blk_frozen BK164.out 2
                have hfz22_3 := blk_frozen BK164.out 3
                have p167 : 0 ≤ ((ji15) : Int) := of_decide_eq_true (by first | (with_reducible assumption) | assumption)
                have q167 : (ji15) < (l0_2.length : Int) := of_decide_eq_true (by first | (with_reducible assumption) | assumption)
                obtain ⟨ad167, e167, hx167_0⟩ := Kd.at_int HR0_2.out (ji15) p167 q167
                cases e167
                replace hx167_0 := (HB.out.cell (World.block_lt_of_cell? w _ hx167_0)).trans hx167_0
                replace p167 := eq_true p167
                replace q167 := eq_true q167
                go_wp2
                go_ret
                exact ⟨by first | rfl | (simp [errW_none, errW_some] <;> rfl) | (simp only [← hji15]; first | rfl | (simp [errW_none, errW_some] <;> rfl)) | (simp [*, errW_none, errW_some] <;> rfl), by repeat (first | (with_reducible first | exact HB.out | apply below_alloc | apply pw_below_drewN | apply below_drew1 | refine below_set ?_ GE164.out) | exact HB.out)⟩
            · rw [if_neg c17] at H
              exact absurd H (by simp)
          · rw [if_neg c16] at H
            exact absurd H (by simp)
        · replace c14 := Bool.eq_false_iff.mpr c14
          subst c14
          have H1 : (if (l0_2.length : Int) > 0 then (if a1 < (wrap64 (a0_3 - a0_1)) then (some (wrap64 (a0_3 - a0_1))) else (some a1)) else (some a1)) = some r := by rw [if_neg (show ¬ (false = true) by decide)] at H; exact H
          clear H
          have H := H1
          clear H1
          by_cases c23 : (l0_2.length : Int) > 0
          · rw [if_pos c23] at H
            have c23b0 : decide (0 < (l0_2.length : Int)) = true := decide_eq_true c23
            have c23b1 : decide (0 < l0_2.length) = true := decide_eq_true (by omega)
            clear c23
            by_cases c24 : a1 < (wrap64 (a0_3 - a0_1))
            · rw [if_pos c24] at H
              have c24b0 : decide (a1 < (wrap64 (a0_3 - a0_1))) = true := decide_eq_true c24
              clear c24
              obtain rfl := Option.some.inj H
              have hcz25_0 : wc.cell? ⟨gb164, 0, none⟩ = some (.int .i64 a0_0) := (blk_cell BK164.out 0).trans rfl
              have hcz25_1 : wc.cell? ⟨gb164, 1, none⟩ = some (.int .i64 a0_1) := (blk_cell BK164.out 1).trans rfl
              have hcz25_2 : wc.cell? ⟨gb164, 2, none⟩ = some (.slice A0_2 l0_2.length c0_2) := (blk_cell BK164.out 2).trans rfl
              have hcz25_3 : wc.cell? ⟨gb164, 3, none⟩ = some (.int .i64 a0_3) := (blk_cell BK164.out 3).trans rfl
              have hfz25_0 := blk_frozen BK164.out 0
              have hfz25_1 := blk_frozen BK164.out 1
              have hfz25_2 := blk_frozen BK164.out 2
              have hfz25_3 := blk_frozen BK164.out 3
              go_wp2
              go_ret
              exact ⟨by first | rfl | (simp [errW_none, errW_some] <;> rfl) | (simp [*, errW_none, errW_some] <;> rfl), by repeat (first | (with_reducible first | exact HB.out | apply below_alloc | apply pw_below_drewN | apply below_drew1 | refine below_set ?_ GE164.out) | exact HB.out)⟩
            · rw [if_neg c24] at H
              have c24b0 : decide (a1 < (wrap64 (a0_3 - a0_1))) = false := decide_eq_false c24
              clear c24
              obtain rfl := Option.some.inj H
              have hcz26_0 : wc.cell? ⟨gb164, 0, none⟩ = some (.int .i64 a0_0) := (blk_cell BK164.out 0).trans rfl
              have hcz26_1 : wc.cell? ⟨gb164, 1, none⟩ = some (.int .i64 a0_1) := (blk_cell BK164.out 1).trans rfl
              have hcz26_2 : wc.cell? ⟨gb164, 2, none⟩ = some (.slice A0_2 l0_2.length c0_2) := (blk_cell BK164.out 2).trans rfl
              have hcz26_3 : wc.cell? ⟨gb164, 3, none⟩ = some (.int .i64 a0_3) := (blk_cell BK164.out 3).trans rfl
              have hfz26_0 := blk_frozen BK164.out 0
              have hfz26_1 := blk_frozen BK164.out 1
              have hfz26_2 := blk_frozen BK164.out 2
              have hfz26_3 := blk_frozen BK164.out 3
              go_wp2
              go_ret
              exact ⟨by first | rfl | (simp [errW_none, errW_some] <;> rfl) | (simp [*, errW_none, errW_some] <;> rfl), by repeat (first | (with_reducible first | exact HB.out | apply below_alloc | apply pw_below_drewN | apply below_drew1 | refine below_set ?_ GE164.out) | exact HB.out)⟩
          · rw [if_neg c23] at H
            have c23b0 : decide (0 < (l0_2.length : Int)) = false := decide_eq_false c23
            have c23b1 : decide (0 < l0_2.length) = false := decide_eq_false (by omega)
            clear c23
            obtain rfl := Option.some.inj H
            go_wp2
            go_ret
            exact ⟨by first | rfl | (simp [errW_none, errW_some] <;> rfl) | (simp [*, errW_none, errW_some] <;> rfl), by repeat (first | (with_reducible first | exact HB.out | apply below_alloc | apply pw_below_drewN | apply below_drew1 | refine below_set ?_ GE164.out) | exact HB.out)⟩

end Go.Proofs.Ytpddklcfkjebgaa.PB
