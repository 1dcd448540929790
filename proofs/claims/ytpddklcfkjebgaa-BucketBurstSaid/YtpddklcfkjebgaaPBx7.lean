-- Written by a program for this claim.
import Derived.Test.YtpddklcfkjebgaaPBx0
import Derived.Test.YtpddklcfkjebgaaPBx1
namespace Go.Proofs.Ytpddklcfkjebgaa.PB
open Go.RowKit Go.Proofs.YtpddklcfkjebgaaW.PrintWords Go.Proofs.YtpddklcfkjebgaaW.PrintLast Go.Proofs.YtpddklcfkjebgaaW.PrintMore
attribute [local go_sem] max2_int min2_int max_two min_two max_three min_three max_four min_four   -- for this text's walks alone
set_option linter.unusedVariables false
set_option linter.unusedSimpArgs false

/-! ### tocsinlaw14_BucketBurst: function 8 -/
def tocsinlaw14_BucketBurst.l0 : Nat → Int → Int → Int → Int → Int → Int → Bool → Int → Int → Int → Int → Option (Bool)
  | 0, _, _, _, _, _, _, _, _, _, _, _ => none
  | k + 1, x1, x2, x7, x10, x347000, x347001, x347002, x347003, x347004, x347005, x347006 => if x10 ≤ 70000 then ((bucket_Bucket_Take.f x347000 x347001 x347002 x347003 x347004 x347005 x347006 (wrap64 (x2))).bind fun bt347 => (if bt347.1 = true then (tocsinlaw14_BucketBurst.l0 k x1 x2 x7 (wrap64 (x10 + 1)) bt347.2.1 bt347.2.2.1 bt347.2.2.2.1 bt347.2.2.2.2.1 bt347.2.2.2.2.2.1 bt347.2.2.2.2.2.2.1 bt347.2.2.2.2.2.2.2) else ((bucket_Budget.f x7 (wrap64 (x1)) 0).bind fun t355 => (if x10 = t355 then ((bucket_Bucket_Next.f bt347.2.1 bt347.2.2.1 bt347.2.2.2.1 bt347.2.2.2.2.1 bt347.2.2.2.2.2.1 bt347.2.2.2.2.2.2.1 bt347.2.2.2.2.2.2.2 (wrap64 (x2))).bind fun bt356 => (some (decide (bt356.1 > (wrap64 (x2)))))) else (some false))))) else ((bucket_Budget.f x7 (wrap64 (x1)) 0).bind fun t364 => (if x10 = t364 then ((bucket_Bucket_Next.f x347000 x347001 x347002 x347003 x347004 x347005 x347006 (wrap64 (x2))).bind fun bt365 => (some (decide (bt365.1 > (wrap64 (x2)))))) else (some false)))
def tocsinlaw14_BucketBurst.f (k : Nat) (a0 : Int) (a1 : Int) (a2 : Int) : Option (Bool) := (tocsinlaw14_fixed.f).bind fun t344 => (if t344 = true then ((bucket_right.f (wrap64 ((wrap64 (a0)) + 1)) (wrap64 (a1))).bind fun t345 => (if t345 = true then (tocsinlaw14_BucketBurst.l0 k a1 a2 (wrap64 ((wrap64 (a0)) + 1)) 0 (wrap64 ((wrap64 (a0)) + 1)) (wrap64 (a1)) false 0 0 0 0) else (some false))) else (some false))
theorem tocsinlaw14_BucketBurst.mono_l : ∀ k, (∀ y0 y1 y2 y3 y4 y5 y6 y7 y8 y9 y10, LeO (tocsinlaw14_BucketBurst.l0 k y0 y1 y2 y3 y4 y5 y6 y7 y8 y9 y10) (tocsinlaw14_BucketBurst.l0 (k + 1) y0 y1 y2 y3 y4 y5 y6 y7 y8 y9 y10))
  | 0 => fun _ _ _ _ _ _ _ _ _ _ _ r h => by simp [tocsinlaw14_BucketBurst.l0] at h
  | k + 1 => by
    have ih0 := tocsinlaw14_BucketBurst.mono_l k
    · intro y0 y1 y2 y3 y4 y5 y6 y7 y8 y9 y10
      unfold tocsinlaw14_BucketBurst.l0
      repeat' first
      | (with_reducible exact ih0 _ _ _ _ _ _ _ _ _ _ _)
      | (with_reducible exact LeO.refl _)
      | (with_reducible exact LeO.none _)
      | (with_reducible refine LeO.ite ?_ ?_)
      | (with_reducible refine LeO.bind ?_ (fun _ => ?_))
      | exact ih0 _ _ _ _ _ _ _ _ _ _ _
      | exact LeO.none _
      | refine LeO.ite ?_ ?_
      | refine LeO.bind ?_ (fun _ => ?_)
theorem tocsinlaw14_BucketBurst.mono : ∀ a0 a1 a2 k, LeO (tocsinlaw14_BucketBurst.f k a0 a1 a2) (tocsinlaw14_BucketBurst.f (k + 1) a0 a1 a2) := by
  intro a0 a1 a2 k
  have ih0 := tocsinlaw14_BucketBurst.mono_l k
  unfold tocsinlaw14_BucketBurst.f
  repeat' first
      | (with_reducible exact ih0 _ _ _ _ _ _ _ _ _ _ _)
      | (with_reducible exact LeO.refl _)
      | (with_reducible exact LeO.none _)
      | (with_reducible refine LeO.ite ?_ ?_)
      | (with_reducible refine LeO.bind ?_ (fun _ => ?_))
      | exact ih0 _ _ _ _ _ _ _ _ _ _ _
      | exact LeO.none _
      | refine LeO.ite ?_ ?_
      | refine LeO.bind ?_ (fun _ => ?_)
set_option maxHeartbeats 8000000 in
set_option maxRecDepth 100000 in
theorem tocsinlaw14_BucketBurst.calls (k : Nat) (a0 : Int) (a1 : Int) (a2 : Int) (r : Bool) (w : World) (h : tocsinlaw14_BucketBurst.f k a0 a1 a2 = some r) :
    Calls Try.prog 8 #[.int .u16 a0, .int .u16 a1, .int .i32 a2] w fun e w' => e = .returned (.bool r) ∧ Below w.heap.size w w' := by
  have HB := Aside0.mk (Below.refl w.heap.size w)
  have H : ((tocsinlaw14_fixed.f).bind fun t344 => (if t344 = true then ((bucket_right.f (wrap64 ((wrap64 (a0)) + 1)) (wrap64 (a1))).bind fun t345 => (if t345 = true then (tocsinlaw14_BucketBurst.l0 k a1 a2 (wrap64 ((wrap64 (a0)) + 1)) 0 (wrap64 ((wrap64 (a0)) + 1)) (wrap64 (a1)) false 0 0 0 0) else (some false))) else (some false))) = some r := h
  clear h
  replace H := Option.bind_eq_some_iff.mp H
  obtain ⟨t344, A40, H⟩ := H
  replace H : (if t344 = true then ((bucket_right.f (wrap64 ((wrap64 (a0)) + 1)) (wrap64 (a1))).bind fun t345 => (if t345 = true then (tocsinlaw14_BucketBurst.l0 k a1 a2 (wrap64 ((wrap64 (a0)) + 1)) 0 (wrap64 ((wrap64 (a0)) + 1)) (wrap64 (a1)) false 0 0 0 0) else (some false))) else (some false)) = some r := H
  have A4 := Aside0.mk A40
  clear A40
  by_cases c5 : t344 = true
  · subst c5
    have H1 : ((bucket_right.f (wrap64 ((wrap64 (a0)) + 1)) (wrap64 (a1))).bind fun t345 => (if t345 = true then (tocsinlaw14_BucketBurst.l0 k a1 a2 (wrap64 ((wrap64 (a0)) + 1)) 0 (wrap64 ((wrap64 (a0)) + 1)) (wrap64 (a1)) false 0 0 0 0) else (some false))) = some r := by rw [if_pos rfl] at H; exact H
    clear H
    have H := H1
    clear H1
    replace H := Option.bind_eq_some_iff.mp H
    obtain ⟨t345, A60, H⟩ := H
    replace H : (if t345 = true then (tocsinlaw14_BucketBurst.l0 k a1 a2 (wrap64 ((wrap64 (a0)) + 1)) 0 (wrap64 ((wrap64 (a0)) + 1)) (wrap64 (a1)) false 0 0 0 0) else (some false)) = some r := H
    have A6 := Aside0.mk A60
    clear A60
    by_cases c7 : t345 = true
    · subst c7
      have H1 : (tocsinlaw14_BucketBurst.l0 k a1 a2 (wrap64 ((wrap64 (a0)) + 1)) 0 (wrap64 ((wrap64 (a0)) + 1)) (wrap64 (a1)) false 0 0 0 0) = some r := by rw [if_pos rfl] at H; exact H
      clear H
      have H := H1
      clear H1
      have H' := Aside0.mk H
      clear H
      go_enter Try.func8, Try.ntmps8
      go_wp2_with (first | ((with_reducible refine gate_callee (f := 9) rfl ?_); refine goesL_ (some 11) rfl rfl Try.func9 (by kernel_rfl) rfl #[] rfl (by (try simp only [List.map_toArray, List.map_cons, List.map_nil]); first | done | rfl | (simp only [List.length_drop, List.length_take]; rfl)) ?_; (with_reducible refine (tocsinlaw14_fixed.calls  true _ A4.out).mono ?_); rintro e w8 ⟨rfl, hb⟩; refine ⟨_, rfl, ?_⟩; have n0_ := Aside0.mk (below_step (by repeat (first | (with_reducible first | exact HB.out | apply below_alloc | apply pw_below_drewN | apply below_drew1) | exact HB.out)) hb); clear HB; have HB := n0_; clear n0_; (try clear hb); (try clear hb2); (try clear hk); (try clear hi)) | (go_at_call 10; go_in) | ((with_reducible refine gate_callee (f := 20) rfl ?_); refine goesL_ (some 8) rfl rfl Try.func20 (by kernel_rfl) rfl #[.int .i64 (wrap64 ((wrap64 (a0)) + 1)), .int .i64 (wrap64 (a1))] rfl (by (try simp only [List.map_toArray, List.map_cons, List.map_nil]); first | done | rfl | (simp only [List.length_drop, List.length_take]; rfl)) ?_; (with_reducible refine (bucket_right.calls (wrap64 ((wrap64 (a0)) + 1)) (wrap64 (a1)) true _ A6.out).mono ?_); rintro e w' ⟨rfl, ⟨nd, rfl⟩⟩; refine ⟨_, rfl, ?_⟩) | ((with_reducible refine gate_dst (N := 13) rfl ?_); refine box_event ?hg (N := 13) ?hd (cs := #[.int .i64 (wrap64 ((wrap64 (a0)) + 1)), .int .i64 (wrap64 (a1)), .bool false, .int .i64 0, .int .i64 0, .int .i64 0, .int .i64 0]) (t := 45) ?hr ?_; (case hd => rfl); (case hg => rfl); (case hr => first | (go_simp; done) | (go_simp; rfl)); intro gb346 hg w9 hbox hb; have n0_ := Aside0.mk (below_step (by repeat (first | (with_reducible first | exact HB.out | apply below_alloc | apply pw_below_drewN | apply below_drew1) | exact HB.out)) hb); have n1_ := Aside0.mk (hbox); have n2_ := Aside0.mk ((by rw [hg]; exact (below_size (by repeat (first | (with_reducible first | exact HB.out | apply below_alloc | apply pw_below_drewN | apply below_drew1) | exact HB.out))) : w.heap.size ≤ gb346)); have n3_ := Aside0.mk ((by rw [hg]; exact (below_size (by repeat (first | (with_reducible first | exact HB.out | apply below_alloc | apply pw_below_drewN | apply below_drew1) | exact HB.out))) : w.heap.size ≤ gb346)); clear HB; have HB := n0_; have BK346 := n1_; have GW346 := n2_; have GE346 := n3_; clear n0_ n1_ n2_ n3_; clear hb hbox hg; have HI346 := Aside0.mk (show IsS45 w w9 gb346 (wrap64 ((wrap64 (a0)) + 1)) (wrap64 (a1)) false 0 0 0 0 from ⟨BK346.out, GE346.out⟩); clear BK346))
      go_loopg [10] k (fun kq v10 w' => ∃ (x10_1 : Int) (x347000_1 : Int) (x347001_1 : Int) (x347002_1 : Bool) (x347003_1 : Int) (x347004_1 : Int) (x347005_1 : Int) (x347006_1 : Int), v10 = .int .i64 x10_1 ∧ Aside0 (tocsinlaw14_BucketBurst.l0 kq a1 a2 (wrap64 ((wrap64 (a0)) + 1)) x10_1 x347000_1 x347001_1 x347002_1 x347003_1 x347004_1 x347005_1 x347006_1 = some r) ∧ Aside0 (kq ≤ k) ∧ Aside0 (IsS45 w w' gb346 x347000_1 x347001_1 x347002_1 x347003_1 x347004_1 x347005_1 x347006_1) ∧ Aside0 (Below w.heap.size w w'))
      case atStart => exact ⟨(0), (wrap64 ((wrap64 (a0)) + 1)), (wrap64 (a1)), (false), (0), (0), (0), (0), (by first | rfl | (simp; done) | (simp [*]; done)), H', ⟨Nat.le_refl _⟩, ⟨by repeat (first | (with_reducible first | exact HI346.out | apply IsS45.alloc | apply IsS45.drewN | apply IsS45.drew | apply IsS45.set_0 | apply IsS45.set_1 | apply IsS45.set_2 | apply IsS45.set_3 | apply IsS45.set_4 | apply IsS45.set_5 | apply IsS45.set_6) | exact HI346.out)⟩, ⟨by repeat (first | (with_reducible first | exact HB.out | apply below_alloc | apply pw_below_drewN | apply below_drew1 | refine below_set ?_ (IsS45.ge HI346.out)) | exact HB.out)⟩⟩
      case round =>
        clear H'
        try clear c2
        try clear p2
        try clear c5
        try clear p6
        try clear c7
        try clear c8
        try clear c9
        obtain ⟨x10_1, x347000_1, x347001_1, x347002_1, x347003_1, x347004_1, x347005_1, x347006_1, rfl, HA, HK1, HI346, HB⟩ := hrel
        cases gk with
        | zero => exact absurd HA.out (by simp [tocsinlaw14_BucketBurst.l0])
        | succ k1 =>
          have H := HA.out
          clear HA
          simp only [tocsinlaw14_BucketBurst.l0] at H
          by_cases c10 : x10_1 ≤ 70000
          · rw [if_pos c10] at H
            have c10b0 : decide (x10_1 ≤ 70000) = true := decide_eq_true c10
            clear c10
            replace H := Option.bind_eq_some_iff.mp H
            obtain ⟨⟨t347, t348, t349, t350, t351, t352, t353, t354⟩, A110, H⟩ := H
            replace H : (if t347 = true then (tocsinlaw14_BucketBurst.l0 k1 a1 a2 (wrap64 ((wrap64 (a0)) + 1)) (wrap64 (x10_1 + 1)) t348 t349 t350 t351 t352 t353 t354) else ((bucket_Budget.f (wrap64 ((wrap64 (a0)) + 1)) (wrap64 (a1)) 0).bind fun t355 => (if x10_1 = t355 then ((bucket_Bucket_Next.f t348 t349 t350 t351 t352 t353 t354 (wrap64 (a2))).bind fun bt356 => (some (decide (bt356.1 > (wrap64 (a2)))))) else (some false)))) = some r := H
            have A11 := Aside0.mk A110
            clear A110
            by_cases c12 : t347 = true
            · subst c12
              have H1 : (tocsinlaw14_BucketBurst.l0 k1 a1 a2 (wrap64 ((wrap64 (a0)) + 1)) (wrap64 (x10_1 + 1)) t348 t349 t350 t351 t352 t353 t354) = some r := by rw [if_pos rfl] at H; exact H
              clear H
              have H := H1
              clear H1
              have H' := Aside0.mk H
              clear H
              go_wp2_with (first | (go_at_call 15; (with_reducible refine (bucket_Bucket_Take.calls gb346 x347000_1 x347001_1 x347002_1 x347003_1 x347004_1 x347005_1 x347006_1 (wrap64 (a2)) true t348 t349 t350 t351 t352 t353 t354 w _ ?side1 ?side2 A11.out).mono ?_); (case side1 => repeat (first | (with_reducible first | exact HI346.out | apply IsS45.alloc | apply IsS45.drewN | apply IsS45.drew | apply IsS45.set_0 | apply IsS45.set_1 | apply IsS45.set_2 | apply IsS45.set_3 | apply IsS45.set_4 | apply IsS45.set_5 | apply IsS45.set_6) | exact HI346.out)); (case side2 => repeat (first | (with_reducible first | exact HB.out | apply below_alloc | apply pw_below_drewN | apply below_drew1 | refine below_set ?_ (IsS45.ge HI346.out)) | exact HB.out)); rintro e w13 ⟨rfl, hi, hb, hk⟩; have n0_ := Aside0.mk (hb); have n1_ := Aside0.mk (hi); clear HB; clear HI346; have HB := n0_; have HI346 := n1_; clear n0_ n1_; (try clear hb); (try clear hb2); (try clear hk); (try clear hi)))
              go_roundg k1
              case measure => have := HK1.out; omega
              case rel => exact ⟨(wrap64 (x10_1 + 1)), (t348), (t349), (t350), (t351), (t352), (t353), (t354), (by first | rfl | (simp; done) | (simp [*]; done)), H', ⟨by have := HK1.out; omega⟩, ⟨by repeat (first | (with_reducible first | exact HI346.out | apply IsS45.alloc | apply IsS45.drewN | apply IsS45.drew | apply IsS45.set_0 | apply IsS45.set_1 | apply IsS45.set_2 | apply IsS45.set_3 | apply IsS45.set_4 | apply IsS45.set_5 | apply IsS45.set_6) | exact HI346.out)⟩, ⟨by repeat (first | (with_reducible first | exact HB.out | apply below_alloc | apply pw_below_drewN | apply below_drew1 | refine below_set ?_ (IsS45.ge HI346.out)) | exact HB.out)⟩⟩
            · replace c12 := Bool.eq_false_iff.mpr c12
              subst c12
              have H1 : ((bucket_Budget.f (wrap64 ((wrap64 (a0)) + 1)) (wrap64 (a1)) 0).bind fun t355 => (if x10_1 = t355 then ((bucket_Bucket_Next.f t348 t349 t350 t351 t352 t353 t354 (wrap64 (a2))).bind fun bt356 => (some (decide (bt356.1 > (wrap64 (a2)))))) else (some false))) = some r := by rw [if_neg (show ¬ (false = true) by decide)] at H; exact H
              clear H
              have H := H1
              clear H1
              replace H := Option.bind_eq_some_iff.mp H
              obtain ⟨t355, A140, H⟩ := H
              replace H : (if x10_1 = t355 then ((bucket_Bucket_Next.f t348 t349 t350 t351 t352 t353 t354 (wrap64 (a2))).bind fun bt356 => (some (decide (bt356.1 > (wrap64 (a2)))))) else (some false)) = some r := H
              have A14 := Aside0.mk A140
              clear A140
              by_cases c15 : x10_1 = t355
              · rw [if_pos c15] at H
                have c15b0 : (x10_1 == t355) = true := beq_iff_eq.mpr c15
                have c15b1 : (x10_1 != t355) = false := bne_eq_false_iff_eq.mpr c15
                clear c15
                replace H := Option.bind_eq_some_iff.mp H
                obtain ⟨⟨t356, t357, t358, t359, t360, t361, t362, t363⟩, A160, H⟩ := H
                replace H : (some (decide (t356 > (wrap64 (a2))))) = some r := H
                have A16 := Aside0.mk A160
                clear A160
                obtain rfl := Option.some.inj H
                go_wp2_with (first | (go_at_call 15; (with_reducible refine (bucket_Bucket_Take.calls gb346 x347000_1 x347001_1 x347002_1 x347003_1 x347004_1 x347005_1 x347006_1 (wrap64 (a2)) false t348 t349 t350 t351 t352 t353 t354 w _ ?side1 ?side2 A11.out).mono ?_); (case side1 => repeat (first | (with_reducible first | exact HI346.out | apply IsS45.alloc | apply IsS45.drewN | apply IsS45.drew | apply IsS45.set_0 | apply IsS45.set_1 | apply IsS45.set_2 | apply IsS45.set_3 | apply IsS45.set_4 | apply IsS45.set_5 | apply IsS45.set_6) | exact HI346.out)); (case side2 => repeat (first | (with_reducible first | exact HB.out | apply below_alloc | apply pw_below_drewN | apply below_drew1 | refine below_set ?_ (IsS45.ge HI346.out)) | exact HB.out)); rintro e w17 ⟨rfl, hi, hb, hk⟩; have n0_ := Aside0.mk (hb); have n1_ := Aside0.mk (hi); clear HB; clear HI346; have HB := n0_; have HI346 := n1_; clear n0_ n1_; (try clear hb); (try clear hb2); (try clear hk); (try clear hi)) | ((with_reducible refine gate_callee (f := 18) rfl ?_); refine goesL_ (some 39) rfl rfl Try.func18 (by kernel_rfl) rfl #[.int .i64 (wrap64 ((wrap64 (a0)) + 1)), .int .i64 (wrap64 (a1)), .int .i64 0] rfl (by (try simp only [List.map_toArray, List.map_cons, List.map_nil]); first | done | rfl | (simp only [List.length_drop, List.length_take]; rfl)) ?_; (with_reducible refine (bucket_Budget.calls (wrap64 ((wrap64 (a0)) + 1)) (wrap64 (a1)) 0 t355 _ A14.out).mono ?_); rintro e w' ⟨rfl, ⟨nd, rfl⟩⟩; refine ⟨_, rfl, ?_⟩) | (go_at_call 12; (with_reducible refine (bucket_Bucket_Next.calls gb346 t348 t349 t350 t351 t352 t353 t354 (wrap64 (a2)) t356 t357 t358 t359 t360 t361 t362 t363 w _ ?side1 ?side2 A16.out).mono ?_); (case side1 => repeat (first | (with_reducible first | exact HI346.out | apply IsS45.alloc | apply IsS45.drewN | apply IsS45.drew | apply IsS45.set_0 | apply IsS45.set_1 | apply IsS45.set_2 | apply IsS45.set_3 | apply IsS45.set_4 | apply IsS45.set_5 | apply IsS45.set_6) | exact HI346.out)); (case side2 => repeat (first | (with_reducible first | exact HB.out | apply below_alloc | apply pw_below_drewN | apply below_drew1 | refine below_set ?_ (IsS45.ge HI346.out)) | exact HB.out)); rintro e w18 ⟨rfl, hi, hb, hk⟩; have n0_ := Aside0.mk (hb); have n1_ := Aside0.mk (hi); clear HB; clear HI346; have HB := n0_; have HI346 := n1_; clear n0_ n1_; (try clear hb); (try clear hb2); (try clear hk); (try clear hi)))
                go_ret
                exact ⟨by first | rfl | (simp [errW_none, errW_some] <;> rfl) | (simp [*, errW_none, errW_some] <;> rfl), by repeat (first | (with_reducible first | exact HB.out | apply below_alloc | apply pw_below_drewN | apply below_drew1 | refine below_set ?_ (IsS45.ge HI346.out)) | exact HB.out)⟩
              · rw [if_neg c15] at H
                have c15b0 : (x10_1 == t355) = false := beq_eq_false_iff_ne.mpr c15
                have c15b1 : (x10_1 != t355) = true := bne_iff_ne.mpr c15
                obtain rfl := Option.some.inj H
                go_wp2_with (first | (go_at_call 15; (with_reducible refine (bucket_Bucket_Take.calls gb346 x347000_1 x347001_1 x347002_1 x347003_1 x347004_1 x347005_1 x347006_1 (wrap64 (a2)) false t348 t349 t350 t351 t352 t353 t354 w _ ?side1 ?side2 A11.out).mono ?_); (case side1 => repeat (first | (with_reducible first | exact HI346.out | apply IsS45.alloc | apply IsS45.drewN | apply IsS45.drew | apply IsS45.set_0 | apply IsS45.set_1 | apply IsS45.set_2 | apply IsS45.set_3 | apply IsS45.set_4 | apply IsS45.set_5 | apply IsS45.set_6) | exact HI346.out)); (case side2 => repeat (first | (with_reducible first | exact HB.out | apply below_alloc | apply pw_below_drewN | apply below_drew1 | refine below_set ?_ (IsS45.ge HI346.out)) | exact HB.out)); rintro e w19 ⟨rfl, hi, hb, hk⟩; have n0_ := Aside0.mk (hb); have n1_ := Aside0.mk (hi); clear HB; clear HI346; have HB := n0_; have HI346 := n1_; clear n0_ n1_; (try clear hb); (try clear hb2); (try clear hk); (try clear hi)) | ((with_reducible refine gate_callee (f := 18) rfl ?_); refine goesL_ (some 39) rfl rfl Try.func18 (by kernel_rfl) rfl #[.int .i64 (wrap64 ((wrap64 (a0)) + 1)), .int .i64 (wrap64 (a1)), .int .i64 0] rfl (by (try simp only [List.map_toArray, List.map_cons, List.map_nil]); first | done | rfl | (simp only [List.length_drop, List.length_take]; rfl)) ?_; (with_reducible refine (bucket_Budget.calls (wrap64 ((wrap64 (a0)) + 1)) (wrap64 (a1)) 0 t355 _ A14.out).mono ?_); rintro e w' ⟨rfl, ⟨nd, rfl⟩⟩; refine ⟨_, rfl, ?_⟩))
                go_ret
                exact ⟨by first | rfl | (simp [errW_none, errW_some] <;> rfl) | (simp [*, errW_none, errW_some] <;> rfl), by repeat (first | (with_reducible first | exact HB.out | apply below_alloc | apply pw_below_drewN | apply below_drew1 | refine below_set ?_ (IsS45.ge HI346.out)) | exact HB.out)⟩
          · rw [if_neg c10] at H
            have c10b0 : decide (x10_1 ≤ 70000) = false := decide_eq_false c10
            clear c10
            replace H := Option.bind_eq_some_iff.mp H
            obtain ⟨t364, A200, H⟩ := H
            replace H : (if x10_1 = t364 then ((bucket_Bucket_Next.f x347000_1 x347001_1 x347002_1 x347003_1 x347004_1 x347005_1 x347006_1 (wrap64 (a2))).bind fun bt365 => (some (decide (bt365.1 > (wrap64 (a2)))))) else (some false)) = some r := H
            have A20 := Aside0.mk A200
            clear A200
            by_cases c21 : x10_1 = t364
            · rw [if_pos c21] at H
              have c21b0 : (x10_1 == t364) = true := beq_iff_eq.mpr c21
              have c21b1 : (x10_1 != t364) = false := bne_eq_false_iff_eq.mpr c21
              clear c21
              replace H := Option.bind_eq_some_iff.mp H
              obtain ⟨⟨t365, t366, t367, t368, t369, t370, t371, t372⟩, A220, H⟩ := H
              replace H : (some (decide (t365 > (wrap64 (a2))))) = some r := H
              have A22 := Aside0.mk A220
              clear A220
              obtain rfl := Option.some.inj H
              go_wp2_with (first | ((with_reducible refine gate_callee (f := 18) rfl ?_); refine goesL_ (some 39) rfl rfl Try.func18 (by kernel_rfl) rfl #[.int .i64 (wrap64 ((wrap64 (a0)) + 1)), .int .i64 (wrap64 (a1)), .int .i64 0] rfl (by (try simp only [List.map_toArray, List.map_cons, List.map_nil]); first | done | rfl | (simp only [List.length_drop, List.length_take]; rfl)) ?_; (with_reducible refine (bucket_Budget.calls (wrap64 ((wrap64 (a0)) + 1)) (wrap64 (a1)) 0 t364 _ A20.out).mono ?_); rintro e w' ⟨rfl, ⟨nd, rfl⟩⟩; refine ⟨_, rfl, ?_⟩) | (go_at_call 12; (with_reducible refine (bucket_Bucket_Next.calls gb346 x347000_1 x347001_1 x347002_1 x347003_1 x347004_1 x347005_1 x347006_1 (wrap64 (a2)) t365 t366 t367 t368 t369 t370 t371 t372 w _ ?side1 ?side2 A22.out).mono ?_); (case side1 => repeat (first | (with_reducible first | exact HI346.out | apply IsS45.alloc | apply IsS45.drewN | apply IsS45.drew | apply IsS45.set_0 | apply IsS45.set_1 | apply IsS45.set_2 | apply IsS45.set_3 | apply IsS45.set_4 | apply IsS45.set_5 | apply IsS45.set_6) | exact HI346.out)); (case side2 => repeat (first | (with_reducible first | exact HB.out | apply below_alloc | apply pw_below_drewN | apply below_drew1 | refine below_set ?_ (IsS45.ge HI346.out)) | exact HB.out)); rintro e w23 ⟨rfl, hi, hb, hk⟩; have n0_ := Aside0.mk (hb); have n1_ := Aside0.mk (hi); clear HB; clear HI346; have HB := n0_; have HI346 := n1_; clear n0_ n1_; (try clear hb); (try clear hb2); (try clear hk); (try clear hi)))
              go_ret
              exact ⟨by first | rfl | (simp [errW_none, errW_some] <;> rfl) | (simp [*, errW_none, errW_some] <;> rfl), by repeat (first | (with_reducible first | exact HB.out | apply below_alloc | apply pw_below_drewN | apply below_drew1 | refine below_set ?_ (IsS45.ge HI346.out)) | exact HB.out)⟩
            · rw [if_neg c21] at H
              have c21b0 : (x10_1 == t364) = false := beq_eq_false_iff_ne.mpr c21
              have c21b1 : (x10_1 != t364) = true := bne_iff_ne.mpr c21
              obtain rfl := Option.some.inj H
              go_wp2_with (first | ((with_reducible refine gate_callee (f := 18) rfl ?_); refine goesL_ (some 39) rfl rfl Try.func18 (by kernel_rfl) rfl #[.int .i64 (wrap64 ((wrap64 (a0)) + 1)), .int .i64 (wrap64 (a1)), .int .i64 0] rfl (by (try simp only [List.map_toArray, List.map_cons, List.map_nil]); first | done | rfl | (simp only [List.length_drop, List.length_take]; rfl)) ?_; (with_reducible refine (bucket_Budget.calls (wrap64 ((wrap64 (a0)) + 1)) (wrap64 (a1)) 0 t364 _ A20.out).mono ?_); rintro e w' ⟨rfl, ⟨nd, rfl⟩⟩; refine ⟨_, rfl, ?_⟩))
              go_ret
              exact ⟨by first | rfl | (simp [errW_none, errW_some] <;> rfl) | (simp [*, errW_none, errW_some] <;> rfl), by repeat (first | (with_reducible first | exact HB.out | apply below_alloc | apply pw_below_drewN | apply below_drew1 | refine below_set ?_ (IsS45.ge HI346.out)) | exact HB.out)⟩
    · replace c7 := Bool.eq_false_iff.mpr c7
      subst c7
      have H1 : (some false) = some r := by rw [if_neg (show ¬ (false = true) by decide)] at H; exact H
      clear H
      have H := H1
      clear H1
      obtain rfl := Option.some.inj H
      go_enter Try.func8, Try.ntmps8
      go_wp2_with (first | ((with_reducible refine gate_callee (f := 9) rfl ?_); refine goesL_ (some 11) rfl rfl Try.func9 (by kernel_rfl) rfl #[] rfl (by (try simp only [List.map_toArray, List.map_cons, List.map_nil]); first | done | rfl | (simp only [List.length_drop, List.length_take]; rfl)) ?_; (with_reducible refine (tocsinlaw14_fixed.calls  true _ A4.out).mono ?_); rintro e w24 ⟨rfl, hb⟩; refine ⟨_, rfl, ?_⟩; have n0_ := Aside0.mk (below_step (by repeat (first | (with_reducible first | exact HB.out | apply below_alloc | apply pw_below_drewN | apply below_drew1) | exact HB.out)) hb); clear HB; have HB := n0_; clear n0_; (try clear hb); (try clear hb2); (try clear hk); (try clear hi)) | (go_at_call 10; go_in) | ((with_reducible refine gate_callee (f := 20) rfl ?_); refine goesL_ (some 8) rfl rfl Try.func20 (by kernel_rfl) rfl #[.int .i64 (wrap64 ((wrap64 (a0)) + 1)), .int .i64 (wrap64 (a1))] rfl (by (try simp only [List.map_toArray, List.map_cons, List.map_nil]); first | done | rfl | (simp only [List.length_drop, List.length_take]; rfl)) ?_; (with_reducible refine (bucket_right.calls (wrap64 ((wrap64 (a0)) + 1)) (wrap64 (a1)) false _ A6.out).mono ?_); rintro e w' ⟨rfl, ⟨nd, rfl⟩⟩; refine ⟨_, rfl, ?_⟩))
      go_ret
      exact ⟨by first | rfl | (simp [errW_none, errW_some] <;> rfl) | (simp [*, errW_none, errW_some] <;> rfl), by repeat (first | (with_reducible first | exact HB.out | apply below_alloc | apply pw_below_drewN | apply below_drew1) | exact HB.out)⟩
  · replace c5 := Bool.eq_false_iff.mpr c5
    subst c5
    have H1 : (some false) = some r := by rw [if_neg (show ¬ (false = true) by decide)] at H; exact H
    clear H
    have H := H1
    clear H1
    obtain rfl := Option.some.inj H
    go_enter Try.func8, Try.ntmps8
    go_wp2_with (first | ((with_reducible refine gate_callee (f := 9) rfl ?_); refine goesL_ (some 11) rfl rfl Try.func9 (by kernel_rfl) rfl #[] rfl (by (try simp only [List.map_toArray, List.map_cons, List.map_nil]); first | done | rfl | (simp only [List.length_drop, List.length_take]; rfl)) ?_; (with_reducible refine (tocsinlaw14_fixed.calls  false _ A4.out).mono ?_); rintro e w25 ⟨rfl, hb⟩; refine ⟨_, rfl, ?_⟩; have n0_ := Aside0.mk (below_step (by repeat (first | (with_reducible first | exact HB.out | apply below_alloc | apply pw_below_drewN | apply below_drew1) | exact HB.out)) hb); clear HB; have HB := n0_; clear n0_; (try clear hb); (try clear hb2); (try clear hk); (try clear hi)))
    go_ret
    exact ⟨by first | rfl | (simp [errW_none, errW_some] <;> rfl) | (simp [*, errW_none, errW_some] <;> rfl), by repeat (first | (with_reducible first | exact HB.out | apply below_alloc | apply pw_below_drewN | apply below_drew1) | exact HB.out)⟩

/-- THE ONE PURE STATEMENT of tocsinlaw14_BucketBurst: yours. -/
def tocsinlaw14_BucketBurst.Pure : Prop := ∀ (a0 : Int) (a1 : Int) (a2 : Int), (Lit.int .u16 a0).wf = true → (Lit.int .u16 a1).wf = true → (Lit.int .i32 a2).wf = true → ∃ k, tocsinlaw14_BucketBurst.f k a0 a1 a2 = some true
theorem tocsinlaw14_BucketBurst.walk (P : tocsinlaw14_BucketBurst.Pure) (a0 : Int) (a1 : Int) (a2 : Int) (w : World) (w0 : (Lit.int .u16 a0).wf = true) (w1 : (Lit.int .u16 a1).wf = true) (w2 : (Lit.int .i32 a2).wf = true) :
    Calls Try.prog 8 #[.int .u16 a0, .int .u16 a1, .int .i32 a2] w fun e w' => e = .returned (.bool true) ∧ Below w.heap.size w w' := by
  obtain ⟨k, h⟩ := P a0 a1 a2 w0 w1 w2
  refine (tocsinlaw14_BucketBurst.calls k a0 a1 a2 true w h).mono ?_
  rintro e w' ⟨rfl, hd⟩
  exact ⟨rfl, hd⟩

end Go.Proofs.Ytpddklcfkjebgaa.PB
