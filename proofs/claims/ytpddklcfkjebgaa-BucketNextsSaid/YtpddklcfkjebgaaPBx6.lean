-- Written by a program for this claim.
import Derived.Test.YtpddklcfkjebgaaPBx0
import Derived.Test.YtpddklcfkjebgaaPBx1
import Derived.Test.YtpddklcfkjebgaaPBx5
namespace Go.Proofs.Ytpddklcfkjebgaa.PB
open Go.RowKit Go.Proofs.YtpddklcfkjebgaaW.PrintWords Go.Proofs.YtpddklcfkjebgaaW.PrintLast Go.Proofs.YtpddklcfkjebgaaW.PrintMore
attribute [local go_sem] max2_int min2_int max_two min_two max_three min_three max_four min_four   -- for this text's walks alone
set_option linter.unusedVariables false
set_option linter.unusedSimpArgs false

/-! ### tocsinlaw14_BucketNexts: function 6 -/
mutual
def tocsinlaw14_BucketNexts.j0 : Nat → Int → Int → List Int → Bool → Option (Bool)
  | 0, _, _, _, _ => none
  | k + 1, x0, x1, x2, x32 => if x32 = true then (some false) else (if 0 ≤ (mn (x2.length : Int) 60) then (if (mn (x2.length : Int) 60) ≤ (x2.length : Int) then (tocsinlaw14_BucketNexts.l0 k x0 x1 x2 ((x2.take ((mn (x2.length : Int) 60) : Int).toNat).length : Int) 0) else (none)) else (none))
def tocsinlaw14_BucketNexts.l0 : Nat → Int → Int → List Int → Int → Int → Option (Bool)
  | 0, _, _, _, _, _ => none
  | k + 1, x0, x1, x2, x38, x39 => if x39 < x38 then ((bucket_right.f x0 x1).bind fun t287 => (if t287 = true then (if 0 ≤ x39 then (if x39 ≤ (x2.length : Int) then ((some (x2.take (x39 : Int).toNat : List Int)).bind fun y289 => (tocsinlaw14_BucketNexts.l1 k x0 x1 x2 x39 x38 x39 y289 (y289.length : Int) 0 x0 x1 false 0 0 0 0)) else (none)) else (none)) else (some true))) else (some true)
def tocsinlaw14_BucketNexts.l1 : Nat → Int → Int → List Int → Int → Int → Int → List Int → Int → Int → Int → Int → Bool → Int → Int → Int → Int → Option (Bool)
  | 0, _, _, _, _, _, _, _, _, _, _, _, _, _, _, _, _ => none
  | k + 1, x0, x1, x2, x8, x38, x39, x54, x55, x56, x289000, x289001, x289002, x289003, x289004, x289005, x289006 => if x56 < x55 then (if 0 ≤ x56 then (if x56 < (x54.length : Int) then ((bucket_Bucket_Take.f x289000 x289001 x289002 x289003 x289004 x289005 x289006 (rd x54 x56)).bind fun bt294 => (tocsinlaw14_BucketNexts.l1 k x0 x1 x2 x8 x38 x39 x54 x55 (wrap64 (x56 + 1)) bt294.2.1 bt294.2.2.1 bt294.2.2.2.1 bt294.2.2.2.2.1 bt294.2.2.2.2.2.1 bt294.2.2.2.2.2.2.1 bt294.2.2.2.2.2.2.2)) else (none)) else (none)) else (if 0 ≤ x8 then (if x8 < (x2.length : Int) then ((bucket_Bucket_Next.f x289000 x289001 x289002 x289003 x289004 x289005 x289006 (rd x2 x8)).bind fun bt303 => ((tocsinref14_Far.f (rd x2 x8)).bind fun t312 => (if t312 = true then (if bt303.1 = 0 then (tocsinlaw14_BucketNexts.l0 k x0 x1 x2 x38 (wrap64 (x39 + 1))) else (some false)) else (if bt303.1 < (rd x2 x8) then (some false) else (if bt303.1 > (rd x2 x8) then ((bucket_Bucket_Take.f bt303.2.1 bt303.2.2.1 bt303.2.2.2.1 bt303.2.2.2.2.1 bt303.2.2.2.2.2.1 bt303.2.2.2.2.2.2.1 bt303.2.2.2.2.2.2.2 (wrap64 (bt303.1 - 1))).bind fun bt315 => (if bt315.1 = true then (some false) else ((tocsinref14_Far.f bt303.1).bind fun t323 => (if t323 = true then (tocsinlaw14_BucketNexts.l0 k x0 x1 x2 x38 (wrap64 (x39 + 1))) else ((bucket_Bucket_Take.f bt315.2.1 bt315.2.2.1 bt315.2.2.2.1 bt315.2.2.2.2.1 bt315.2.2.2.2.2.1 bt315.2.2.2.2.2.2.1 bt315.2.2.2.2.2.2.2 bt303.1).bind fun bt324 => (if bt324.1 = true then (tocsinlaw14_BucketNexts.l0 k x0 x1 x2 x38 (wrap64 (x39 + 1))) else (some false))))))) else ((tocsinref14_Far.f bt303.1).bind fun t332 => (if t332 = true then (tocsinlaw14_BucketNexts.l0 k x0 x1 x2 x38 (wrap64 (x39 + 1))) else ((bucket_Bucket_Take.f bt303.2.1 bt303.2.2.1 bt303.2.2.2.1 bt303.2.2.2.2.1 bt303.2.2.2.2.2.1 bt303.2.2.2.2.2.2.1 bt303.2.2.2.2.2.2.2 bt303.1).bind fun bt333 => (if bt333.1 = true then (tocsinlaw14_BucketNexts.l0 k x0 x1 x2 x38 (wrap64 (x39 + 1))) else (some false)))))))))) else (none)) else (none))
end
def tocsinlaw14_BucketNexts.f (k : Nat) (a0 : Int) (a1 : Int) (l2 : List Int) : Option (Bool) := (tocsinlaw14_fixed.f).bind fun t278 => (if t278 = true then ((bucket_Bucket_Take_nil.f 0).bind fun t279 => (if t279 = true then (tocsinlaw14_BucketNexts.j0 k a0 a1 l2 true) else ((bucket_Bucket_Next_nil.f 5).bind fun t280 => (if t280 = 0 then ((bucket_Bucket_Passed_nil.f).bind fun t281 => (if t281 = 0 then ((bucket_Bucket_Refused_nil.f).bind fun t282 => (tocsinlaw14_BucketNexts.j0 k a0 a1 l2 (t282 != 0))) else (tocsinlaw14_BucketNexts.j0 k a0 a1 l2 true))) else (tocsinlaw14_BucketNexts.j0 k a0 a1 l2 true))))) else (some false))
theorem tocsinlaw14_BucketNexts.mono_l : ∀ k, (∀ y0 y1 y2 y3, LeO (tocsinlaw14_BucketNexts.j0 k y0 y1 y2 y3) (tocsinlaw14_BucketNexts.j0 (k + 1) y0 y1 y2 y3)) ∧ (∀ y0 y1 y2 y3 y4, LeO (tocsinlaw14_BucketNexts.l0 k y0 y1 y2 y3 y4) (tocsinlaw14_BucketNexts.l0 (k + 1) y0 y1 y2 y3 y4)) ∧ (∀ y0 y1 y2 y3 y4 y5 y6 y7 y8 y9 y10 y11 y12 y13 y14 y15, LeO (tocsinlaw14_BucketNexts.l1 k y0 y1 y2 y3 y4 y5 y6 y7 y8 y9 y10 y11 y12 y13 y14 y15) (tocsinlaw14_BucketNexts.l1 (k + 1) y0 y1 y2 y3 y4 y5 y6 y7 y8 y9 y10 y11 y12 y13 y14 y15))
  | 0 => ⟨fun _ _ _ _ r h => by simp [tocsinlaw14_BucketNexts.j0] at h, fun _ _ _ _ _ r h => by simp [tocsinlaw14_BucketNexts.l0] at h, fun _ _ _ _ _ _ _ _ _ _ _ _ _ _ _ _ r h => by simp [tocsinlaw14_BucketNexts.l1] at h⟩
  | k + 1 => by
    obtain ⟨ih0, ih1, ih2⟩ := tocsinlaw14_BucketNexts.mono_l k
    refine ⟨?_, ?_, ?_⟩
    · intro y0 y1 y2 y3
      unfold tocsinlaw14_BucketNexts.j0
      repeat' first
      | (with_reducible exact ih0 _ _ _ _)
      | (with_reducible exact ih1 _ _ _ _ _)
      | (with_reducible exact ih2 _ _ _ _ _ _ _ _ _ _ _ _ _ _ _ _)
      | (with_reducible exact LeO.refl _)
      | (with_reducible exact LeO.none _)
      | (with_reducible refine LeO.ite ?_ ?_)
      | (with_reducible refine LeO.bind ?_ (fun _ => ?_))
      | exact ih0 _ _ _ _
      | exact ih1 _ _ _ _ _
      | exact ih2 _ _ _ _ _ _ _ _ _ _ _ _ _ _ _ _
      | exact LeO.none _
      | refine LeO.ite ?_ ?_
      | refine LeO.bind ?_ (fun _ => ?_)
    · intro y0 y1 y2 y3 y4
      unfold tocsinlaw14_BucketNexts.l0
      repeat' first
      | (with_reducible exact ih0 _ _ _ _)
      | (with_reducible exact ih1 _ _ _ _ _)
      | (with_reducible exact ih2 _ _ _ _ _ _ _ _ _ _ _ _ _ _ _ _)
      | (with_reducible exact LeO.refl _)
      | (with_reducible exact LeO.none _)
      | (with_reducible refine LeO.ite ?_ ?_)
      | (with_reducible refine LeO.bind ?_ (fun _ => ?_))
      | exact ih0 _ _ _ _
      | exact ih1 _ _ _ _ _
      | exact ih2 _ _ _ _ _ _ _ _ _ _ _ _ _ _ _ _
      | exact LeO.none _
      | refine LeO.ite ?_ ?_
      | refine LeO.bind ?_ (fun _ => ?_)
    · intro y0 y1 y2 y3 y4 y5 y6 y7 y8 y9 y10 y11 y12 y13 y14 y15
      unfold tocsinlaw14_BucketNexts.l1
      repeat' first
      | (with_reducible exact ih0 _ _ _ _)
      | (with_reducible exact ih1 _ _ _ _ _)
      | (with_reducible exact ih2 _ _ _ _ _ _ _ _ _ _ _ _ _ _ _ _)
      | (with_reducible exact LeO.refl _)
      | (with_reducible exact LeO.none _)
      | (with_reducible refine LeO.ite ?_ ?_)
      | (with_reducible refine LeO.bind ?_ (fun _ => ?_))
      | exact ih0 _ _ _ _
      | exact ih1 _ _ _ _ _
      | exact ih2 _ _ _ _ _ _ _ _ _ _ _ _ _ _ _ _
      | exact LeO.none _
      | refine LeO.ite ?_ ?_
      | refine LeO.bind ?_ (fun _ => ?_)
theorem tocsinlaw14_BucketNexts.mono : ∀ a0 a1 a2 k, LeO (tocsinlaw14_BucketNexts.f k a0 a1 a2) (tocsinlaw14_BucketNexts.f (k + 1) a0 a1 a2) := by
  intro a0 a1 a2 k
  obtain ⟨ih0, ih1, ih2⟩ := tocsinlaw14_BucketNexts.mono_l k
  unfold tocsinlaw14_BucketNexts.f
  repeat' first
      | (with_reducible exact ih0 _ _ _ _)
      | (with_reducible exact ih1 _ _ _ _ _)
      | (with_reducible exact ih2 _ _ _ _ _ _ _ _ _ _ _ _ _ _ _ _)
      | (with_reducible exact LeO.refl _)
      | (with_reducible exact LeO.none _)
      | (with_reducible refine LeO.ite ?_ ?_)
      | (with_reducible refine LeO.bind ?_ (fun _ => ?_))
      | exact ih0 _ _ _ _
      | exact ih1 _ _ _ _ _
      | exact ih2 _ _ _ _ _ _ _ _ _ _ _ _ _ _ _ _
      | exact LeO.none _
      | refine LeO.ite ?_ ?_
      | refine LeO.bind ?_ (fun _ => ?_)
set_option maxHeartbeats 8000000 in
set_option maxRecDepth 100000 in
theorem tocsinlaw14_BucketNexts.calls (k : Nat) (a0 : Int) (a1 : Int) (A2 : Option Addr) (c2 : Nat) (l2 : List Int) (r : Bool) (w : World) (hr2 : Kd.C (Kd.int .i64) w A2 l2.length l2) (hc2 : l2.length ≤ c2) (h : tocsinlaw14_BucketNexts.f k a0 a1 l2 = some r) :
    Calls Try.prog 6 #[.int .i64 a0, .int .i64 a1, .slice A2 l2.length c2] w fun e w' => e = .returned (.bool r) ∧ Below w.heap.size w w' := by
  have HR2 := Aside0.mk hr2
  have HC2 := Aside0.mk hc2
  clear hr2 hc2
  have HB := Aside0.mk (Below.refl w.heap.size w)
  have H : ((tocsinlaw14_fixed.f).bind fun t278 => (if t278 = true then ((bucket_Bucket_Take_nil.f 0).bind fun t279 => (if t279 = true then (tocsinlaw14_BucketNexts.j0 k a0 a1 l2 true) else ((bucket_Bucket_Next_nil.f 5).bind fun t280 => (if t280 = 0 then ((bucket_Bucket_Passed_nil.f).bind fun t281 => (if t281 = 0 then ((bucket_Bucket_Refused_nil.f).bind fun t282 => (tocsinlaw14_BucketNexts.j0 k a0 a1 l2 (t282 != 0))) else (tocsinlaw14_BucketNexts.j0 k a0 a1 l2 true))) else (tocsinlaw14_BucketNexts.j0 k a0 a1 l2 true))))) else (some false))) = some r := h
  clear h
  replace H := Option.bind_eq_some_iff.mp H
  obtain ⟨t278, A40, H⟩ := H
  replace H : (if t278 = true then ((bucket_Bucket_Take_nil.f 0).bind fun t279 => (if t279 = true then (tocsinlaw14_BucketNexts.j0 k a0 a1 l2 true) else ((bucket_Bucket_Next_nil.f 5).bind fun t280 => (if t280 = 0 then ((bucket_Bucket_Passed_nil.f).bind fun t281 => (if t281 = 0 then ((bucket_Bucket_Refused_nil.f).bind fun t282 => (tocsinlaw14_BucketNexts.j0 k a0 a1 l2 (t282 != 0))) else (tocsinlaw14_BucketNexts.j0 k a0 a1 l2 true))) else (tocsinlaw14_BucketNexts.j0 k a0 a1 l2 true))))) else (some false)) = some r := H
  have A4 := Aside0.mk A40
  clear A40
  by_cases c5 : t278 = true
  · subst c5
    have H1 : ((bucket_Bucket_Take_nil.f 0).bind fun t279 => (if t279 = true then (tocsinlaw14_BucketNexts.j0 k a0 a1 l2 true) else ((bucket_Bucket_Next_nil.f 5).bind fun t280 => (if t280 = 0 then ((bucket_Bucket_Passed_nil.f).bind fun t281 => (if t281 = 0 then ((bucket_Bucket_Refused_nil.f).bind fun t282 => (tocsinlaw14_BucketNexts.j0 k a0 a1 l2 (t282 != 0))) else (tocsinlaw14_BucketNexts.j0 k a0 a1 l2 true))) else (tocsinlaw14_BucketNexts.j0 k a0 a1 l2 true))))) = some r := by rw [if_pos rfl] at H; exact H
    clear H
    have H := H1
    clear H1
    have HC6 := Aside0.mk H
    clear H
    go_enter Try.func6, Try.ntmps6
    go_upto_region 4 with (first | ((with_reducible refine gate_callee (f := 9) rfl ?_); refine goesL_ (some 14) rfl rfl Try.func9 (by kernel_rfl) rfl #[] rfl (by (try simp only [List.map_toArray, List.map_cons, List.map_nil]); first | done | rfl | (simp only [List.length_drop, List.length_take]; rfl)) ?_; (with_reducible refine (tocsinlaw14_fixed.calls  true _ A4.out).mono ?_); rintro e w7 ⟨rfl, hb⟩; refine ⟨_, rfl, ?_⟩; have n0_ := Aside0.mk (below_step (by repeat (first | (with_reducible first | exact HB.out | apply below_alloc | apply pw_below_drewN | apply below_drew1) | exact HB.out)) hb); clear HB; have HB := n0_; clear n0_; (try clear hb); (try clear hb2); (try clear hk); (try clear hi)))
    (try simp only [Act.put, List.setIfInBounds_toArray, List.set_cons_zero, List.set_cons_succ])
    go_cut [32] (fun v32 wc => ∃ (kq : Nat) (x32_5 : Bool), v32 = .bool x32_5 ∧ Aside0 (tocsinlaw14_BucketNexts.j0 kq a0 a1 l2 x32_5 = some r) ∧ Aside0 (kq ≤ k) ∧ Aside0 (Below w.heap.size w wc))
    case first =>
      have H := HC6.out
      clear HC6
      replace H := Option.bind_eq_some_iff.mp H
      obtain ⟨t279, A80, H⟩ := H
      replace H : (if t279 = true then (tocsinlaw14_BucketNexts.j0 k a0 a1 l2 true) else ((bucket_Bucket_Next_nil.f 5).bind fun t280 => (if t280 = 0 then ((bucket_Bucket_Passed_nil.f).bind fun t281 => (if t281 = 0 then ((bucket_Bucket_Refused_nil.f).bind fun t282 => (tocsinlaw14_BucketNexts.j0 k a0 a1 l2 (t282 != 0))) else (tocsinlaw14_BucketNexts.j0 k a0 a1 l2 true))) else (tocsinlaw14_BucketNexts.j0 k a0 a1 l2 true)))) = some r := H
      have A8 := Aside0.mk A80
      clear A80
      by_cases c9 : t279 = true
      · subst c9
        have H1 : (tocsinlaw14_BucketNexts.j0 k a0 a1 l2 true) = some r := by rw [if_pos rfl] at H; exact H
        clear H
        have H := H1
        clear H1
        have H' := Aside0.mk H
        clear H
        go_wp2_with (first | ((with_reducible refine gate_callee (f := 15) rfl ?_); refine goesL_ (some 17) rfl rfl Try.func15 (by kernel_rfl) rfl #[.pointer none, .int .i64 0] rfl (by (try simp only [List.map_toArray, List.map_cons, List.map_nil]); first | done | rfl | (simp only [List.length_drop, List.length_take]; rfl)) ?_; (with_reducible refine (bucket_Bucket_Take_nil.calls  0 true _ A8.out).mono ?_); rintro e w' ⟨rfl, ⟨nd, rfl⟩⟩; refine ⟨_, rfl, ?_⟩))
        go_meet
        case rel => exact ⟨_, (true), (by first | rfl | (simp; done) | (simp [*]; done)), H', ⟨by first | omega | exact Nat.le_refl _⟩, ⟨by repeat (first | (with_reducible first | exact HB.out | apply below_alloc | apply pw_below_drewN | apply below_drew1) | exact HB.out)⟩⟩
      · replace c9 := Bool.eq_false_iff.mpr c9
        subst c9
        have H1 : ((bucket_Bucket_Next_nil.f 5).bind fun t280 => (if t280 = 0 then ((bucket_Bucket_Passed_nil.f).bind fun t281 => (if t281 = 0 then ((bucket_Bucket_Refused_nil.f).bind fun t282 => (tocsinlaw14_BucketNexts.j0 k a0 a1 l2 (t282 != 0))) else (tocsinlaw14_BucketNexts.j0 k a0 a1 l2 true))) else (tocsinlaw14_BucketNexts.j0 k a0 a1 l2 true))) = some r := by rw [if_neg (show ¬ (false = true) by decide)] at H; exact H
        clear H
        have H := H1
        clear H1
        replace H := Option.bind_eq_some_iff.mp H
        obtain ⟨t280, A100, H⟩ := H
        replace H : (if t280 = 0 then ((bucket_Bucket_Passed_nil.f).bind fun t281 => (if t281 = 0 then ((bucket_Bucket_Refused_nil.f).bind fun t282 => (tocsinlaw14_BucketNexts.j0 k a0 a1 l2 (t282 != 0))) else (tocsinlaw14_BucketNexts.j0 k a0 a1 l2 true))) else (tocsinlaw14_BucketNexts.j0 k a0 a1 l2 true)) = some r := H
        have A10 := Aside0.mk A100
        clear A100
        by_cases c11 : t280 = 0
        · rw [if_pos c11] at H
          have c11b0 : (t280 == 0) = true := beq_iff_eq.mpr c11
          have c11b1 : (t280 != 0) = false := bne_eq_false_iff_eq.mpr c11
          clear c11
          (first | rw [c11b0] | (simp only [i64_w, i32_w]; rw [c11b0]) | skip)
          replace H := Option.bind_eq_some_iff.mp H
          obtain ⟨t281, A120, H⟩ := H
          replace H : (if t281 = 0 then ((bucket_Bucket_Refused_nil.f).bind fun t282 => (tocsinlaw14_BucketNexts.j0 k a0 a1 l2 (t282 != 0))) else (tocsinlaw14_BucketNexts.j0 k a0 a1 l2 true)) = some r := H
          have A12 := Aside0.mk A120
          clear A120
          by_cases c13 : t281 = 0
          · rw [if_pos c13] at H
            have c13b0 : (t281 == 0) = true := beq_iff_eq.mpr c13
            have c13b1 : (t281 != 0) = false := bne_eq_false_iff_eq.mpr c13
            clear c13
            replace H := Option.bind_eq_some_iff.mp H
            obtain ⟨t282, A140, H⟩ := H
            replace H : (tocsinlaw14_BucketNexts.j0 k a0 a1 l2 (t282 != 0)) = some r := H
            have A14 := Aside0.mk A140
            clear A140
            have H' := Aside0.mk H
            clear H
            go_wp2_with (first | ((with_reducible refine gate_callee (f := 15) rfl ?_); refine goesL_ (some 17) rfl rfl Try.func15 (by kernel_rfl) rfl #[.pointer none, .int .i64 0] rfl (by (try simp only [List.map_toArray, List.map_cons, List.map_nil]); first | done | rfl | (simp only [List.length_drop, List.length_take]; rfl)) ?_; (with_reducible refine (bucket_Bucket_Take_nil.calls  0 false _ A8.out).mono ?_); rintro e w' ⟨rfl, ⟨nd, rfl⟩⟩; refine ⟨_, rfl, ?_⟩) | (go_at_call 12; (with_reducible refine (bucket_Bucket_Next_nil.calls  5 t280 _ A10.out).mono ?_); rintro e w' ⟨rfl, ⟨nd, rfl⟩⟩) | (go_at_call 16; (with_reducible refine (bucket_Bucket_Passed_nil.calls  t281 _ A12.out).mono ?_); rintro e w' ⟨rfl, ⟨nd, rfl⟩⟩) | (go_at_call 17; (with_reducible refine (bucket_Bucket_Refused_nil.calls  t282 _ A14.out).mono ?_); rintro e w' ⟨rfl, ⟨nd, rfl⟩⟩))
            go_meet
            case rel => exact ⟨_, ((t282 != 0)), (by first | rfl | (simp; done) | (simp [*]; done)), H', ⟨by first | omega | exact Nat.le_refl _⟩, ⟨by repeat (first | (with_reducible first | exact HB.out | apply below_alloc | apply pw_below_drewN | apply below_drew1) | exact HB.out)⟩⟩
          · rw [if_neg c13] at H
            have c13b0 : (t281 == 0) = false := beq_eq_false_iff_ne.mpr c13
            have c13b1 : (t281 != 0) = true := bne_iff_ne.mpr c13
            have H' := Aside0.mk H
            clear H
            go_wp2_with (first | ((with_reducible refine gate_callee (f := 15) rfl ?_); refine goesL_ (some 17) rfl rfl Try.func15 (by kernel_rfl) rfl #[.pointer none, .int .i64 0] rfl (by (try simp only [List.map_toArray, List.map_cons, List.map_nil]); first | done | rfl | (simp only [List.length_drop, List.length_take]; rfl)) ?_; (with_reducible refine (bucket_Bucket_Take_nil.calls  0 false _ A8.out).mono ?_); rintro e w' ⟨rfl, ⟨nd, rfl⟩⟩; refine ⟨_, rfl, ?_⟩) | (go_at_call 12; (with_reducible refine (bucket_Bucket_Next_nil.calls  5 t280 _ A10.out).mono ?_); rintro e w' ⟨rfl, ⟨nd, rfl⟩⟩) | (go_at_call 16; (with_reducible refine (bucket_Bucket_Passed_nil.calls  t281 _ A12.out).mono ?_); rintro e w' ⟨rfl, ⟨nd, rfl⟩⟩))
            go_meet
            case rel => exact ⟨_, (true), (by first | rfl | (simp; done) | (simp [*]; done)), H', ⟨by first | omega | exact Nat.le_refl _⟩, ⟨by repeat (first | (with_reducible first | exact HB.out | apply below_alloc | apply pw_below_drewN | apply below_drew1) | exact HB.out)⟩⟩
        · rw [if_neg c11] at H
          have c11b0 : (t280 == 0) = false := beq_eq_false_iff_ne.mpr c11
          have c11b1 : (t280 != 0) = true := bne_iff_ne.mpr c11
          (first | rw [c11b0] | (simp only [i64_w, i32_w]; rw [c11b0]) | skip)
          have H' := Aside0.mk H
          clear H
          go_wp2_with (first | ((with_reducible refine gate_callee (f := 15) rfl ?_); refine goesL_ (some 17) rfl rfl Try.func15 (by kernel_rfl) rfl #[.pointer none, .int .i64 0] rfl (by (try simp only [List.map_toArray, List.map_cons, List.map_nil]); first | done | rfl | (simp only [List.length_drop, List.length_take]; rfl)) ?_; (with_reducible refine (bucket_Bucket_Take_nil.calls  0 false _ A8.out).mono ?_); rintro e w' ⟨rfl, ⟨nd, rfl⟩⟩; refine ⟨_, rfl, ?_⟩) | (go_at_call 12; (with_reducible refine (bucket_Bucket_Next_nil.calls  5 t280 _ A10.out).mono ?_); rintro e w' ⟨rfl, ⟨nd, rfl⟩⟩))
          go_meet
          case rel => exact ⟨_, (true), (by first | rfl | (simp; done) | (simp [*]; done)), H', ⟨by first | omega | exact Nat.le_refl _⟩, ⟨by repeat (first | (with_reducible first | exact HB.out | apply below_alloc | apply pw_below_drewN | apply below_drew1) | exact HB.out)⟩⟩
    case rest =>
      clear HC6
      try clear c1
      try clear c2
      try clear p2
      try clear c5
      try clear c6
      try clear c9
      try clear c11
      try clear c11b0
      try clear c11b1
      try clear c13
      try clear c13b0
      try clear c13b1
      obtain ⟨kq, x32_5, rfl, HA, HJ5, HB⟩ := hcut
      cases kq with
      | zero => exact absurd HA.out (by simp [tocsinlaw14_BucketNexts.j0])
      | succ kj5 =>
        have H := HA.out
        clear HA
        simp only [tocsinlaw14_BucketNexts.j0] at H
        by_cases c15 : x32_5 = true
        · subst c15
          have H1 : (some false) = some r := by rw [if_pos rfl] at H; exact H
          clear H
          have H := H1
          clear H1
          obtain rfl := Option.some.inj H
          go_wp2
          go_ret
          exact ⟨by first | rfl | (simp [errW_none, errW_some] <;> rfl) | (simp [*, errW_none, errW_some] <;> rfl), by repeat (first | (with_reducible first | exact HB.out | apply below_alloc | apply pw_below_drewN | apply below_drew1) | exact HB.out)⟩
        · replace c15 := Bool.eq_false_iff.mpr c15
          subst c15
          have H1 : (if 0 ≤ (mn (l2.length : Int) 60) then (if (mn (l2.length : Int) 60) ≤ (l2.length : Int) then (tocsinlaw14_BucketNexts.l0 kj5 a0 a1 l2 ((l2.take ((mn (l2.length : Int) 60) : Int).toNat).length : Int) 0) else (none)) else (none)) = some r := by rw [if_neg (show ¬ (false = true) by decide)] at H; exact H
          clear H
          have H := H1
          clear H1
          obtain ⟨ji16, hji16⟩ : ∃ j_ : Int, (mn (l2.length : Int) 60) = j_ := ⟨_, rfl⟩
          replace H : (if 0 ≤ (ji16) then (if (ji16) ≤ (l2.length : Int) then (tocsinlaw14_BucketNexts.l0 kj5 a0 a1 l2 ((l2.take ((ji16) : Int).toNat).length : Int) 0) else (none)) else (none)) = some r := by first | (rw [hji16] at H; exact H) | (simp only [hji16] at H ⊢; exact H)
          have hji16_ : (if 60 < (l2.length : Int) then 60 else (l2.length : Int)) = ji16 := hji16
          by_cases c17 : 0 ≤ (ji16)
          · rw [if_pos c17] at H
            have c17b0 := eq_true c17
            have c17b1 : decide (0 ≤ (ji16)) = true := decide_eq_true c17
            clear c17
            by_cases c18 : (ji16) ≤ (l2.length : Int)
            · rw [if_pos c18] at H
              have c18b0 := eq_true c18
              have c18b1 : decide ((ji16) ≤ (l2.length : Int)) = true := decide_eq_true c18
              clear c18
              obtain ⟨y283, hy283⟩ : ∃ y_ : List Int, y_ = (l2.take ((ji16) : Int).toNat) := ⟨_, rfl⟩
              replace H : (tocsinlaw14_BucketNexts.l0 kj5 a0 a1 l2 (y283.length : Int) 0) = some r := by first | (rw [hy283]; with_reducible exact H) | (have H2_ := (Option.bind_some _ _).symm.trans H; rw [hy283]; with_reducible exact H2_) | (have H2_ := (Option.bind_some _ _).symm.trans H; with_reducible exact H2_) | with_reducible exact H | (rw [hy283]; exact H) | exact H
              have Ny283 := Aside0.mk hy283
              clear hy283
              have H' := Aside0.mk H
              clear H
              have q19 : ((ji16) : Int) ≤ ((l2.length : Int) : Int) := of_decide_eq_true (by first | (with_reducible assumption) | assumption)
              obtain ⟨i019, hi019, _, hsz19, _⟩ := info_parts info2
              have hroom19 : l2.length ≤ c2 := HC2.out
              have hC19 : Kd.C (Kd.int .i64) _ A2 l2.length l2 := HR2.out
              have hcut19 := cut_to (P := Try.prog) 22 2 .i64 Try.underlying22 hi019 A2 l2.length c2 (ji16) (of_decide_eq_true (by first | (with_reducible assumption) | assumption)) q19 hroom19
              have hr19 := Kd.C_take (m := ((ji16) : Int).toNat) hC19 (by omega)
              have hy19 : y283.length = ((ji16) : Int).toNat := (by rw [Ny283.out, List.length_take]; omega)
              rw [← Ny283.out] at hr19
              rw [← hy19] at hcut19
              have HR286 := Aside0.mk hr19
              have HC286 := Aside0.mk (show y283.length ≤ c2 from by omega)
              clear hr19 hC19 hroom19 hi019 hsz19
              have KY19 := Aside0.mk hy19
              clear hy19
              replace q19 := eq_true q19
              go_wp2
              go_loopg [39] kj5 (fun kq v39 w' => ∃ (x39_2 : Int), v39 = .int .i64 x39_2 ∧ Aside0 (tocsinlaw14_BucketNexts.l0 kq a0 a1 l2 (y283.length : Int) x39_2 = some r) ∧ Aside0 (kq ≤ kj5) ∧ Aside0 (Below w.heap.size w w'))
              case atStart => exact ⟨(0), (by first | rfl | (simp; done) | (simp [*]; done)), H', ⟨Nat.le_refl _⟩, ⟨by repeat (first | (with_reducible first | exact HB.out | apply below_alloc | apply pw_below_drewN | apply below_drew1) | exact HB.out)⟩⟩
              case round =>
                clear H'
                try clear c1
                try clear q1
                try clear c2
                try clear p2
                try clear c5
                try clear c6
                try clear c9
                try clear c11
                try clear c11b0
                try clear c11b1
                try clear c13
                try clear c13b0
                try clear c13b1
                try clear c15
                try clear c17
                try clear c17b0
                try clear c17b1
                try clear c18
                try clear c18b0
                try clear c18b1
                try clear q19
                try clear p2
                try clear q19
                obtain ⟨x39_2, rfl, HA, HK2, HB⟩ := hrel
                cases gk with
                | zero => exact absurd HA.out (by simp [tocsinlaw14_BucketNexts.l0])
                | succ k2 =>
                  have H := HA.out
                  clear HA
                  simp only [tocsinlaw14_BucketNexts.l0] at H
                  by_cases c20 : x39_2 < (y283.length : Int)
                  · rw [if_pos c20] at H
                    have c20b0 : decide (x39_2 < (y283.length : Int)) = true := decide_eq_true c20
                    clear c20
                    replace H := Option.bind_eq_some_iff.mp H
                    obtain ⟨t287, A210, H⟩ := H
                    replace H : (if t287 = true then (if 0 ≤ x39_2 then (if x39_2 ≤ (l2.length : Int) then ((some (l2.take (x39_2 : Int).toNat : List Int)).bind fun y289 => (tocsinlaw14_BucketNexts.l1 k2 a0 a1 l2 x39_2 (y283.length : Int) x39_2 y289 (y289.length : Int) 0 a0 a1 false 0 0 0 0)) else (none)) else (none)) else (some true)) = some r := H
                    have A21 := Aside0.mk A210
                    clear A210
                    by_cases c22 : t287 = true
                    · subst c22
                      have H1 : (if 0 ≤ x39_2 then (if x39_2 ≤ (l2.length : Int) then ((some (l2.take (x39_2 : Int).toNat : List Int)).bind fun y289 => (tocsinlaw14_BucketNexts.l1 k2 a0 a1 l2 x39_2 (y283.length : Int) x39_2 y289 (y289.length : Int) 0 a0 a1 false 0 0 0 0)) else (none)) else (none)) = some r := by rw [if_pos rfl] at H; exact H
                      clear H
                      have H := H1
                      clear H1
                      by_cases c23 : 0 ≤ x39_2
                      · rw [if_pos c23] at H
                        have c23b0 := eq_true c23
                        have c23b1 : decide (0 ≤ x39_2) = true := decide_eq_true c23
                        clear c23
                        by_cases c24 : x39_2 ≤ (l2.length : Int)
                        · rw [if_pos c24] at H
                          have c24b0 := eq_true c24
                          have c24b1 : decide (x39_2 ≤ (l2.length : Int)) = true := decide_eq_true c24
                          clear c24
                          obtain ⟨y289, hy289⟩ : ∃ y_ : List Int, y_ = (l2.take (x39_2 : Int).toNat) := ⟨_, rfl⟩
                          replace H : (tocsinlaw14_BucketNexts.l1 k2 a0 a1 l2 x39_2 (y283.length : Int) x39_2 y289 (y289.length : Int) 0 a0 a1 false 0 0 0 0) = some r := by first | (rw [hy289]; with_reducible exact H) | (have H2_ := (Option.bind_some _ _).symm.trans H; rw [hy289]; with_reducible exact H2_) | (have H2_ := (Option.bind_some _ _).symm.trans H; with_reducible exact H2_) | with_reducible exact H | (rw [hy289]; exact H) | exact H
                          have Ny289 := Aside0.mk hy289
                          clear hy289
                          have H' := Aside0.mk H
                          clear H
                          go_wp2_with (first | (go_at_call 10; go_in) | ((with_reducible refine gate_callee (f := 20) rfl ?_); refine goesL_ (some 8) rfl rfl Try.func20 (by kernel_rfl) rfl #[.int .i64 a0, .int .i64 a1] rfl (by (try simp only [List.map_toArray, List.map_cons, List.map_nil]); first | done | rfl | (simp only [List.length_drop, List.length_take]; rfl)) ?_; (with_reducible refine (bucket_right.calls a0 a1 true _ A21.out).mono ?_); rintro e w' ⟨rfl, ⟨nd, rfl⟩⟩; refine ⟨_, rfl, ?_⟩) | ((with_reducible refine gate_dst (N := 13) rfl ?_); refine box_event ?hg (N := 13) ?hd (cs := #[.int .i64 a0, .int .i64 a1, .bool false, .int .i64 0, .int .i64 0, .int .i64 0, .int .i64 0]) (t := 45) ?hr ?_; (case hd => rfl); (case hg => rfl); (case hr => first | (go_simp; done) | (go_simp; rfl)); intro gb288 hg w25 hbox hb; have n0_ := Aside0.mk (below_step (by repeat (first | (with_reducible first | exact HB.out | apply below_alloc | apply pw_below_drewN | apply below_drew1) | exact HB.out)) hb); have n1_ := Aside0.mk (hbox); have n2_ := Aside0.mk ((by rw [hg]; exact (below_size (by repeat (first | (with_reducible first | exact HB.out | apply below_alloc | apply pw_below_drewN | apply below_drew1) | exact HB.out))) : w.heap.size ≤ gb288)); have n3_ := Aside0.mk ((by rw [hg]; exact (below_size (by repeat (first | (with_reducible first | exact HB.out | apply below_alloc | apply pw_below_drewN | apply below_drew1) | exact HB.out))) : w.heap.size ≤ gb288)); clear HB; have HB := n0_; have BK288 := n1_; have GW288 := n2_; have GE288 := n3_; clear n0_ n1_ n2_ n3_; clear hb hbox hg; have HI288 := Aside0.mk (show IsS45 w w25 gb288 a0 a1 false 0 0 0 0 from ⟨BK288.out, GE288.out⟩); clear BK288; have q26 : (x39_2 : Int) ≤ ((l2.length : Int) : Int) := of_decide_eq_true (by first | (with_reducible assumption) | assumption); obtain ⟨i026, hi026, _, hsz26, _⟩ := info_parts info2; have hroom26 : l2.length ≤ c2 := HC2.out; have hC26 : Kd.C (Kd.int .i64) _ A2 l2.length l2 := HR2.out; have hcut26 := cut_to (P := Try.prog) 22 2 .i64 Try.underlying22 hi026 A2 l2.length c2 x39_2 (of_decide_eq_true (by first | (with_reducible assumption) | assumption)) q26 hroom26; have hr26 := Kd.C_take (m := (x39_2 : Int).toNat) hC26 (by omega); have hy26 : y289.length = (x39_2 : Int).toNat := (by rw [Ny289.out, List.length_take]; omega); rw [← Ny289.out] at hr26; rw [← hy26] at hcut26; have HR292 := Aside0.mk hr26; have HC292 := Aside0.mk (show y289.length ≤ c2 from by omega); clear hr26 hC26 hroom26 hi026 hsz26; have KY26 := Aside0.mk hy26; clear hy26; replace q26 := eq_true q26))
                          go_loopg [56] k2 (fun kq v56 w' => ∃ (x56_3 : Int) (x289000_3 : Int) (x289001_3 : Int) (x289002_3 : Bool) (x289003_3 : Int) (x289004_3 : Int) (x289005_3 : Int) (x289006_3 : Int), v56 = .int .i64 x56_3 ∧ Aside0 (tocsinlaw14_BucketNexts.l1 kq a0 a1 l2 x39_2 (y283.length : Int) x39_2 y289 (y289.length : Int) x56_3 x289000_3 x289001_3 x289002_3 x289003_3 x289004_3 x289005_3 x289006_3 = some r) ∧ Aside0 (kq ≤ k2) ∧ Aside0 (IsS45 w w' gb288 x289000_3 x289001_3 x289002_3 x289003_3 x289004_3 x289005_3 x289006_3) ∧ Aside0 (Below w.heap.size w w'))
                          case atStart => exact ⟨(0), (a0), (a1), (false), (0), (0), (0), (0), (by first | rfl | (simp; done) | (simp [*]; done)), H', ⟨Nat.le_refl _⟩, ⟨by repeat (first | (with_reducible first | exact HI288.out | apply IsS45.alloc | apply IsS45.drewN | apply IsS45.drew | apply IsS45.set_0 | apply IsS45.set_1 | apply IsS45.set_2 | apply IsS45.set_3 | apply IsS45.set_4 | apply IsS45.set_5 | apply IsS45.set_6) | exact HI288.out)⟩, ⟨by repeat (first | (with_reducible first | exact HB.out | apply below_alloc | apply pw_below_drewN | apply below_drew1 | refine below_set ?_ (IsS45.ge HI288.out)) | exact HB.out)⟩⟩
                          case round =>
                            clear H'
                            try clear c1
                            try clear q1
                            try clear c2
                            try clear p2
                            try clear q2
                            try clear c5
                            try clear c6
                            try clear c9
                            try clear c11
                            try clear c11b0
                            try clear c11b1
                            try clear c13
                            try clear c13b0
                            try clear c13b1
                            try clear c15
                            try clear c17
                            try clear c17b0
                            try clear c17b1
                            try clear c18
                            try clear c18b0
                            try clear c18b1
                            try clear q19
                            try clear c20
                            try clear c20b0
                            try clear c22
                            try clear c23
                            try clear c23b0
                            try clear c23b1
                            try clear c24
                            try clear c24b0
                            try clear c24b1
                            try clear q26
                            try clear p2
                            try clear q1
                            try clear q19
                            try clear q26
                            obtain ⟨x56_3, x289000_3, x289001_3, x289002_3, x289003_3, x289004_3, x289005_3, x289006_3, rfl, HA, HK3, HI288, HB⟩ := hrel
                            cases gk with
                            | zero => exact absurd HA.out (by simp [tocsinlaw14_BucketNexts.l1])
                            | succ k3 =>
                              have H := HA.out
                              clear HA
                              simp only [tocsinlaw14_BucketNexts.l1] at H
                              by_cases c27 : x56_3 < (y289.length : Int)
                              · rw [if_pos c27] at H
                                have c27b0 : decide (x56_3 < (y289.length : Int)) = true := decide_eq_true c27
                                clear c27
                                by_cases c28 : 0 ≤ x56_3
                                · rw [if_pos c28] at H
                                  have c28b0 : decide (0 ≤ x56_3) = true := decide_eq_true c28
                                  clear c28
                                  by_cases c29 : x56_3 < (y289.length : Int)
                                  · rw [if_pos c29] at H
                                    have c29b0 : decide (x56_3 < (y289.length : Int)) = true := decide_eq_true c29
                                    clear c29
                                    replace H := Option.bind_eq_some_iff.mp H
                                    obtain ⟨⟨t294, t295, t296, t297, t298, t299, t300, t301⟩, A300, H⟩ := H
                                    replace H : (tocsinlaw14_BucketNexts.l1 k3 a0 a1 l2 x39_2 (y283.length : Int) x39_2 y289 (y289.length : Int) (wrap64 (x56_3 + 1)) t295 t296 t297 t298 t299 t300 t301) = some r := H
                                    have A30 := Aside0.mk A300
                                    clear A300
                                    have H' := Aside0.mk H
                                    clear H
                                    have p293 : 0 ≤ (x56_3 : Int) := of_decide_eq_true (by first | (with_reducible assumption) | assumption)
                                    have q293 : x56_3 < (y289.length : Int) := of_decide_eq_true (by first | (with_reducible assumption) | assumption)
                                    obtain ⟨ad293, e293, hx293_0⟩ := Kd.at_int HR292.out x56_3 p293 q293
                                    cases e293
                                    replace hx293_0 := (HB.out.cell (World.block_lt_of_cell? w _ hx293_0)).trans hx293_0
                                    replace p293 := eq_true p293
                                    replace q293 := eq_true q293
                                    go_wp2_with (first | ((with_reducible refine gate_callee (f := 15) rfl ?_); refine goesL_ (some 62) rfl rfl Try.func15 (by kernel_rfl) rfl #[.pointer (some ⟨gb288, 0, none⟩), .int .i64 (rd y289 x56_3)] rfl (by (try simp only [List.map_toArray, List.map_cons, List.map_nil]); first | done | rfl | (simp only [List.length_drop, List.length_take]; rfl)) ?_; (with_reducible refine (bucket_Bucket_Take.calls gb288 x289000_3 x289001_3 x289002_3 x289003_3 x289004_3 x289005_3 x289006_3 (rd y289 x56_3) t294 t295 t296 t297 t298 t299 t300 t301 w _ ?side1 ?side2 A30.out).mono ?_); (case side1 => repeat (first | (with_reducible first | exact HI288.out | apply IsS45.alloc | apply IsS45.drewN | apply IsS45.drew | apply IsS45.set_0 | apply IsS45.set_1 | apply IsS45.set_2 | apply IsS45.set_3 | apply IsS45.set_4 | apply IsS45.set_5 | apply IsS45.set_6) | exact HI288.out)); (case side2 => repeat (first | (with_reducible first | exact HB.out | apply below_alloc | apply pw_below_drewN | apply below_drew1 | refine below_set ?_ (IsS45.ge HI288.out)) | exact HB.out)); rintro e w31 ⟨rfl, hi, hb, hk⟩; refine ⟨_, rfl, ?_⟩; have n0_ := Aside0.mk (hb); have n1_ := Aside0.mk (hi); clear HB; clear HI288; have HB := n0_; have HI288 := n1_; clear n0_ n1_; (try clear hb); (try clear hb2); (try clear hk); (try clear hi)))
                                    go_roundg k3
                                    case measure => have := HJ5.out; have := HK2.out; have := HK3.out; omega
                                    case rel => exact ⟨(wrap64 (x56_3 + 1)), (t295), (t296), (t297), (t298), (t299), (t300), (t301), (by first | rfl | (simp; done) | (simp [*]; done)), H', ⟨by have := HJ5.out; have := HK2.out; have := HK3.out; omega⟩, ⟨by repeat (first | (with_reducible first | exact HI288.out | apply IsS45.alloc | apply IsS45.drewN | apply IsS45.drew | apply IsS45.set_0 | apply IsS45.set_1 | apply IsS45.set_2 | apply IsS45.set_3 | apply IsS45.set_4 | apply IsS45.set_5 | apply IsS45.set_6) | exact HI288.out)⟩, ⟨by repeat (first | (with_reducible first | exact HB.out | apply below_alloc | apply pw_below_drewN | apply below_drew1 | refine below_set ?_ (IsS45.ge HI288.out)) | exact HB.out)⟩⟩
                                  · rw [if_neg c29] at H
                                    exact absurd H (by simp)
                                · rw [if_neg c28] at H
                                  exact absurd H (by simp)
                              · rw [if_neg c27] at H
                                have c27b0 : decide (x56_3 < (y289.length : Int)) = false := decide_eq_false c27
                                clear c27
                                by_cases c32 : 0 ≤ x39_2
                                · rw [if_pos c32] at H
                                  have c32b0 : decide (0 ≤ x39_2) = true := decide_eq_true c32
                                  clear c32
                                  by_cases c33 : x39_2 < (l2.length : Int)
                                  · rw [if_pos c33] at H
                                    have c33b0 : decide (x39_2 < (l2.length : Int)) = true := decide_eq_true c33
                                    clear c33
                                    replace H := Option.bind_eq_some_iff.mp H
                                    obtain ⟨⟨t303, t304, t305, t306, t307, t308, t309, t310⟩, A340, H⟩ := H
                                    replace H : ((tocsinref14_Far.f (rd l2 x39_2)).bind fun t312 => (if t312 = true then (if t303 = 0 then (tocsinlaw14_BucketNexts.l0 k3 a0 a1 l2 (y283.length : Int) (wrap64 (x39_2 + 1))) else (some false)) else (if t303 < (rd l2 x39_2) then (some false) else (if t303 > (rd l2 x39_2) then ((bucket_Bucket_Take.f t304 t305 t306 t307 t308 t309 t310 (wrap64 (t303 - 1))).bind fun bt315 => (if bt315.1 = true then (some false) else ((tocsinref14_Far.f t303).bind fun t323 => (if t323 = true then (tocsinlaw14_BucketNexts.l0 k3 a0 a1 l2 (y283.length : Int) (wrap64 (x39_2 + 1))) else ((bucket_Bucket_Take.f bt315.2.1 bt315.2.2.1 bt315.2.2.2.1 bt315.2.2.2.2.1 bt315.2.2.2.2.2.1 bt315.2.2.2.2.2.2.1 bt315.2.2.2.2.2.2.2 t303).bind fun bt324 => (if bt324.1 = true then (tocsinlaw14_BucketNexts.l0 k3 a0 a1 l2 (y283.length : Int) (wrap64 (x39_2 + 1))) else (some false))))))) else ((tocsinref14_Far.f t303).bind fun t332 => (if t332 = true then (tocsinlaw14_BucketNexts.l0 k3 a0 a1 l2 (y283.length : Int) (wrap64 (x39_2 + 1))) else ((bucket_Bucket_Take.f t304 t305 t306 t307 t308 t309 t310 t303).bind fun bt333 => (if bt333.1 = true then (tocsinlaw14_BucketNexts.l0 k3 a0 a1 l2 (y283.length : Int) (wrap64 (x39_2 + 1))) else (some false))))))))) = some r := H
                                    have A34 := Aside0.mk A340
                                    clear A340
                                    replace H := Option.bind_eq_some_iff.mp H
                                    obtain ⟨t312, A350, H⟩ := H
                                    replace H : (if t312 = true then (if t303 = 0 then (tocsinlaw14_BucketNexts.l0 k3 a0 a1 l2 (y283.length : Int) (wrap64 (x39_2 + 1))) else (some false)) else (if t303 < (rd l2 x39_2) then (some false) else (if t303 > (rd l2 x39_2) then ((bucket_Bucket_Take.f t304 t305 t306 t307 t308 t309 t310 (wrap64 (t303 - 1))).bind fun bt315 => (if bt315.1 = true then (some false) else ((tocsinref14_Far.f t303).bind fun t323 => (if t323 = true then (tocsinlaw14_BucketNexts.l0 k3 a0 a1 l2 (y283.length : Int) (wrap64 (x39_2 + 1))) else ((bucket_Bucket_Take.f bt315.2.1 bt315.2.2.1 bt315.2.2.2.1 bt315.2.2.2.2.1 bt315.2.2.2.2.2.1 bt315.2.2.2.2.2.2.1 bt315.2.2.2.2.2.2.2 t303).bind fun bt324 => (if bt324.1 = true then (tocsinlaw14_BucketNexts.l0 k3 a0 a1 l2 (y283.length : Int) (wrap64 (x39_2 + 1))) else (some false))))))) else ((tocsinref14_Far.f t303).bind fun t332 => (if t332 = true then (tocsinlaw14_BucketNexts.l0 k3 a0 a1 l2 (y283.length : Int) (wrap64 (x39_2 + 1))) else ((bucket_Bucket_Take.f t304 t305 t306 t307 t308 t309 t310 t303).bind fun bt333 => (if bt333.1 = true then (tocsinlaw14_BucketNexts.l0 k3 a0 a1 l2 (y283.length : Int) (wrap64 (x39_2 + 1))) else (some false)))))))) = some r := H
                                    have A35 := Aside0.mk A350
                                    clear A350
                                    by_cases c36 : t312 = true
                                    · subst c36
                                      have H1 : (if t303 = 0 then (tocsinlaw14_BucketNexts.l0 k3 a0 a1 l2 (y283.length : Int) (wrap64 (x39_2 + 1))) else (some false)) = some r := by rw [if_pos rfl] at H; exact H
                                      clear H
                                      have H := H1
                                      clear H1
                                      by_cases c37 : t303 = 0
                                      · rw [if_pos c37] at H
                                        have c37b0 : (t303 == 0) = true := beq_iff_eq.mpr c37
                                        have c37b1 : (t303 != 0) = false := bne_eq_false_iff_eq.mpr c37
                                        clear c37
                                        have H' := Aside0.mk H
                                        clear H
                                        have p302 : 0 ≤ (x39_2 : Int) := of_decide_eq_true (by first | (with_reducible assumption) | assumption)
                                        have q302 : x39_2 < (l2.length : Int) := of_decide_eq_true (by first | (with_reducible assumption) | assumption)
                                        obtain ⟨ad302, e302, hx302_0⟩ := Kd.at_int HR2.out x39_2 p302 q302
                                        cases e302
                                        replace hx302_0 := (HB.out.cell (World.block_lt_of_cell? w _ hx302_0)).trans hx302_0
                                        replace p302 := eq_true p302
                                        replace q302 := eq_true q302
                                        go_wp2_with (first | ((with_reducible refine gate_callee (f := 12) rfl ?_); refine goesL_ (some 69) rfl rfl Try.func12 (by kernel_rfl) rfl #[.pointer (some ⟨gb288, 0, none⟩), .int .i64 (rd l2 x39_2)] rfl (by (try simp only [List.map_toArray, List.map_cons, List.map_nil]); first | done | rfl | (simp only [List.length_drop, List.length_take]; rfl)) ?_; (with_reducible refine (bucket_Bucket_Next.calls gb288 x289000_3 x289001_3 x289002_3 x289003_3 x289004_3 x289005_3 x289006_3 (rd l2 x39_2) t303 t304 t305 t306 t307 t308 t309 t310 w _ ?side1 ?side2 A34.out).mono ?_); (case side1 => repeat (first | (with_reducible first | exact HI288.out | apply IsS45.alloc | apply IsS45.drewN | apply IsS45.drew | apply IsS45.set_0 | apply IsS45.set_1 | apply IsS45.set_2 | apply IsS45.set_3 | apply IsS45.set_4 | apply IsS45.set_5 | apply IsS45.set_6) | exact HI288.out)); (case side2 => repeat (first | (with_reducible first | exact HB.out | apply below_alloc | apply pw_below_drewN | apply below_drew1 | refine below_set ?_ (IsS45.ge HI288.out)) | exact HB.out)); rintro e w38 ⟨rfl, hi, hb, hk⟩; refine ⟨_, rfl, ?_⟩; have n0_ := Aside0.mk (hb); have n1_ := Aside0.mk (hi); clear HB; clear HI288; have HB := n0_; have HI288 := n1_; clear n0_ n1_; (try clear hb); (try clear hb2); (try clear hk); (try clear hi); have p311 : 0 ≤ (x39_2 : Int) := of_decide_eq_true (by first | (with_reducible assumption) | assumption); have q311 : x39_2 < (l2.length : Int) := of_decide_eq_true (by first | (with_reducible assumption) | assumption); obtain ⟨ad311, e311, hx311_0⟩ := Kd.at_int HR2.out x39_2 p311 q311; obtain rfl : ad302 = ad311 := (by injection e311); replace hx311_0 := (HB.out.cell (World.block_lt_of_cell? w _ hx311_0)).trans hx311_0; replace p311 := eq_true p311; replace q311 := eq_true q311) | ((with_reducible refine gate_callee (f := 19) rfl ?_); refine goesL_ (some 74) rfl rfl Try.func19 (by kernel_rfl) rfl #[.int .i64 (rd l2 x39_2)] rfl (by (try simp only [List.map_toArray, List.map_cons, List.map_nil]); first | done | rfl | (simp only [List.length_drop, List.length_take]; rfl)) ?_; (with_reducible refine (tocsinref14_Far.calls (rd l2 x39_2) true _ A35.out).mono ?_); rintro e w' ⟨rfl, ⟨nd, rfl⟩⟩; refine ⟨_, rfl, ?_⟩))
                                        go_roundg k3
                                        case measure => have := HJ5.out; have := HK2.out; have := HK3.out; omega
                                        case rel => exact ⟨(wrap64 (x39_2 + 1)), (by first | rfl | (simp; done) | (simp [*]; done)), H', ⟨by have := HJ5.out; have := HK2.out; have := HK3.out; omega⟩, ⟨by repeat (first | (with_reducible first | exact HB.out | apply below_alloc | apply pw_below_drewN | apply below_drew1 | refine below_set ?_ (IsS45.ge HI288.out)) | exact HB.out)⟩⟩
                                      · rw [if_neg c37] at H
                                        have c37b0 : (t303 == 0) = false := beq_eq_false_iff_ne.mpr c37
                                        have c37b1 : (t303 != 0) = true := bne_iff_ne.mpr c37
                                        obtain rfl := Option.some.inj H
                                        have p302 : 0 ≤ (x39_2 : Int) := of_decide_eq_true (by first | (with_reducible assumption) | assumption)
                                        have q302 : x39_2 < (l2.length : Int) := of_decide_eq_true (by first | (with_reducible assumption) | assumption)
                                        obtain ⟨ad302, e302, hx302_0⟩ := Kd.at_int HR2.out x39_2 p302 q302
                                        cases e302
                                        replace hx302_0 := (HB.out.cell (World.block_lt_of_cell? w _ hx302_0)).trans hx302_0
                                        replace p302 := eq_true p302
                                        replace q302 := eq_true q302
                                        go_wp2_with (first | ((with_reducible refine gate_callee (f := 12) rfl ?_); refine goesL_ (some 69) rfl rfl Try.func12 (by kernel_rfl) rfl #[.pointer (some ⟨gb288, 0, none⟩), .int .i64 (rd l2 x39_2)] rfl (by (try simp only [List.map_toArray, List.map_cons, List.map_nil]); first | done | rfl | (simp only [List.length_drop, List.length_take]; rfl)) ?_; (with_reducible refine (bucket_Bucket_Next.calls gb288 x289000_3 x289001_3 x289002_3 x289003_3 x289004_3 x289005_3 x289006_3 (rd l2 x39_2) t303 t304 t305 t306 t307 t308 t309 t310 w _ ?side1 ?side2 A34.out).mono ?_); (case side1 => repeat (first | (with_reducible first | exact HI288.out | apply IsS45.alloc | apply IsS45.drewN | apply IsS45.drew | apply IsS45.set_0 | apply IsS45.set_1 | apply IsS45.set_2 | apply IsS45.set_3 | apply IsS45.set_4 | apply IsS45.set_5 | apply IsS45.set_6) | exact HI288.out)); (case side2 => repeat (first | (with_reducible first | exact HB.out | apply below_alloc | apply pw_below_drewN | apply below_drew1 | refine below_set ?_ (IsS45.ge HI288.out)) | exact HB.out)); rintro e w39 ⟨rfl, hi, hb, hk⟩; refine ⟨_, rfl, ?_⟩; have n0_ := Aside0.mk (hb); have n1_ := Aside0.mk (hi); clear HB; clear HI288; have HB := n0_; have HI288 := n1_; clear n0_ n1_; (try clear hb); (try clear hb2); (try clear hk); (try clear hi); have p311 : 0 ≤ (x39_2 : Int) := of_decide_eq_true (by first | (with_reducible assumption) | assumption); have q311 : x39_2 < (l2.length : Int) := of_decide_eq_true (by first | (with_reducible assumption) | assumption); obtain ⟨ad311, e311, hx311_0⟩ := Kd.at_int HR2.out x39_2 p311 q311; obtain rfl : ad302 = ad311 := (by injection e311); replace hx311_0 := (HB.out.cell (World.block_lt_of_cell? w _ hx311_0)).trans hx311_0; replace p311 := eq_true p311; replace q311 := eq_true q311) | ((with_reducible refine gate_callee (f := 19) rfl ?_); refine goesL_ (some 74) rfl rfl Try.func19 (by kernel_rfl) rfl #[.int .i64 (rd l2 x39_2)] rfl (by (try simp only [List.map_toArray, List.map_cons, List.map_nil]); first | done | rfl | (simp only [List.length_drop, List.length_take]; rfl)) ?_; (with_reducible refine (tocsinref14_Far.calls (rd l2 x39_2) true _ A35.out).mono ?_); rintro e w' ⟨rfl, ⟨nd, rfl⟩⟩; refine ⟨_, rfl, ?_⟩))
                                        go_ret
                                        exact ⟨by first | rfl | (simp [errW_none, errW_some] <;> rfl) | (simp only [← hji16]; first | rfl | (simp [errW_none, errW_some] <;> rfl)) | (simp [*, errW_none, errW_some] <;> rfl), by repeat (first | (with_reducible first | exact HB.out | apply below_alloc | apply pw_below_drewN | apply below_drew1 | refine below_set ?_ (IsS45.ge HI288.out)) | exact HB.out)⟩
                                    · replace c36 := Bool.eq_false_iff.mpr c36
                                      subst c36
                                      have H1 : (if t303 < (rd l2 x39_2) then (some false) else (if t303 > (rd l2 x39_2) then ((bucket_Bucket_Take.f t304 t305 t306 t307 t308 t309 t310 (wrap64 (t303 - 1))).bind fun bt315 => (if bt315.1 = true then (some false) else ((tocsinref14_Far.f t303).bind fun t323 => (if t323 = true then (tocsinlaw14_BucketNexts.l0 k3 a0 a1 l2 (y283.length : Int) (wrap64 (x39_2 + 1))) else ((bucket_Bucket_Take.f bt315.2.1 bt315.2.2.1 bt315.2.2.2.1 bt315.2.2.2.2.1 bt315.2.2.2.2.2.1 bt315.2.2.2.2.2.2.1 bt315.2.2.2.2.2.2.2 t303).bind fun bt324 => (if bt324.1 = true then (tocsinlaw14_BucketNexts.l0 k3 a0 a1 l2 (y283.length : Int) (wrap64 (x39_2 + 1))) else (some false))))))) else ((tocsinref14_Far.f t303).bind fun t332 => (if t332 = true then (tocsinlaw14_BucketNexts.l0 k3 a0 a1 l2 (y283.length : Int) (wrap64 (x39_2 + 1))) else ((bucket_Bucket_Take.f t304 t305 t306 t307 t308 t309 t310 t303).bind fun bt333 => (if bt333.1 = true then (tocsinlaw14_BucketNexts.l0 k3 a0 a1 l2 (y283.length : Int) (wrap64 (x39_2 + 1))) else (some false))))))) = some r := by rw [if_neg (show ¬ (false = true) by decide)] at H; exact H
                                      clear H
                                      have H := H1
                                      clear H1
                                      by_cases c40 : t303 < (rd l2 x39_2)
                                      · rw [if_pos c40] at H
                                        have c40b0 : decide (t303 < (rd l2 x39_2)) = true := decide_eq_true c40
                                        clear c40
                                        obtain rfl := Option.some.inj H
                                        have p302 : 0 ≤ (x39_2 : Int) := of_decide_eq_true (by first | (with_reducible assumption) | assumption)
                                        have q302 : x39_2 < (l2.length : Int) := of_decide_eq_true (by first | (with_reducible assumption) | assumption)
                                        obtain ⟨ad302, e302, hx302_0⟩ := Kd.at_int HR2.out x39_2 p302 q302
                                        cases e302
                                        replace hx302_0 := (HB.out.cell (World.block_lt_of_cell? w _ hx302_0)).trans hx302_0
                                        replace p302 := eq_true p302
                                        replace q302 := eq_true q302
                                        go_wp2_with (first | ((with_reducible refine gate_callee (f := 12) rfl ?_); refine goesL_ (some 69) rfl rfl Try.func12 (by kernel_rfl) rfl #[.pointer (some ⟨gb288, 0, none⟩), .int .i64 (rd l2 x39_2)] rfl (by (try simp only [List.map_toArray, List.map_cons, List.map_nil]); first | done | rfl | (simp only [List.length_drop, List.length_take]; rfl)) ?_; (with_reducible refine (bucket_Bucket_Next.calls gb288 x289000_3 x289001_3 x289002_3 x289003_3 x289004_3 x289005_3 x289006_3 (rd l2 x39_2) t303 t304 t305 t306 t307 t308 t309 t310 w _ ?side1 ?side2 A34.out).mono ?_); (case side1 => repeat (first | (with_reducible first | exact HI288.out | apply IsS45.alloc | apply IsS45.drewN | apply IsS45.drew | apply IsS45.set_0 | apply IsS45.set_1 | apply IsS45.set_2 | apply IsS45.set_3 | apply IsS45.set_4 | apply IsS45.set_5 | apply IsS45.set_6) | exact HI288.out)); (case side2 => repeat (first | (with_reducible first | exact HB.out | apply below_alloc | apply pw_below_drewN | apply below_drew1 | refine below_set ?_ (IsS45.ge HI288.out)) | exact HB.out)); rintro e w41 ⟨rfl, hi, hb, hk⟩; refine ⟨_, rfl, ?_⟩; have n0_ := Aside0.mk (hb); have n1_ := Aside0.mk (hi); clear HB; clear HI288; have HB := n0_; have HI288 := n1_; clear n0_ n1_; (try clear hb); (try clear hb2); (try clear hk); (try clear hi); have p311 : 0 ≤ (x39_2 : Int) := of_decide_eq_true (by first | (with_reducible assumption) | assumption); have q311 : x39_2 < (l2.length : Int) := of_decide_eq_true (by first | (with_reducible assumption) | assumption); obtain ⟨ad311, e311, hx311_0⟩ := Kd.at_int HR2.out x39_2 p311 q311; obtain rfl : ad302 = ad311 := (by injection e311); replace hx311_0 := (HB.out.cell (World.block_lt_of_cell? w _ hx311_0)).trans hx311_0; replace p311 := eq_true p311; replace q311 := eq_true q311) | ((with_reducible refine gate_callee (f := 19) rfl ?_); refine goesL_ (some 74) rfl rfl Try.func19 (by kernel_rfl) rfl #[.int .i64 (rd l2 x39_2)] rfl (by (try simp only [List.map_toArray, List.map_cons, List.map_nil]); first | done | rfl | (simp only [List.length_drop, List.length_take]; rfl)) ?_; (with_reducible refine (tocsinref14_Far.calls (rd l2 x39_2) false _ A35.out).mono ?_); rintro e w' ⟨rfl, ⟨nd, rfl⟩⟩; refine ⟨_, rfl, ?_⟩; have p313 : 0 ≤ (x39_2 : Int) := of_decide_eq_true (by first | (with_reducible assumption) | assumption); have q313 : x39_2 < (l2.length : Int) := of_decide_eq_true (by first | (with_reducible assumption) | assumption); obtain ⟨ad313, e313, hx313_0⟩ := Kd.at_int HR2.out x39_2 p313 q313; obtain rfl : ad302 = ad313 := (by injection e313); replace hx313_0 := (HB.out.cell (World.block_lt_of_cell? w _ hx313_0)).trans hx313_0; replace p313 := eq_true p313; replace q313 := eq_true q313))
                                        go_ret
                                        exact ⟨by first | rfl | (simp [errW_none, errW_some] <;> rfl) | (simp only [← hji16]; first | rfl | (simp [errW_none, errW_some] <;> rfl)) | (simp [*, errW_none, errW_some] <;> rfl), by repeat (first | (with_reducible first | exact HB.out | apply below_alloc | apply pw_below_drewN | apply below_drew1 | refine below_set ?_ (IsS45.ge HI288.out)) | exact HB.out)⟩
                                      · rw [if_neg c40] at H
                                        have c40b0 : decide (t303 < (rd l2 x39_2)) = false := decide_eq_false c40
                                        clear c40
                                        by_cases c42 : t303 > (rd l2 x39_2)
                                        · rw [if_pos c42] at H
                                          have c42b0 : decide ((rd l2 x39_2) < t303) = true := decide_eq_true c42
                                          clear c42
                                          replace H := Option.bind_eq_some_iff.mp H
                                          obtain ⟨⟨t315, t316, t317, t318, t319, t320, t321, t322⟩, A430, H⟩ := H
                                          replace H : (if t315 = true then (some false) else ((tocsinref14_Far.f t303).bind fun t323 => (if t323 = true then (tocsinlaw14_BucketNexts.l0 k3 a0 a1 l2 (y283.length : Int) (wrap64 (x39_2 + 1))) else ((bucket_Bucket_Take.f t316 t317 t318 t319 t320 t321 t322 t303).bind fun bt324 => (if bt324.1 = true then (tocsinlaw14_BucketNexts.l0 k3 a0 a1 l2 (y283.length : Int) (wrap64 (x39_2 + 1))) else (some false)))))) = some r := H
                                          have A43 := Aside0.mk A430
                                          clear A430
                                          by_cases c44 : t315 = true
                                          · subst c44
                                            have H1 : (some false) = some r := by rw [if_pos rfl] at H; exact H
                                            clear H
                                            have H := H1
                                            clear H1
                                            obtain rfl := Option.some.inj H
                                            have p302 : 0 ≤ (x39_2 : Int) := of_decide_eq_true (by first | (with_reducible assumption) | assumption)
                                            have q302 : x39_2 < (l2.length : Int) := of_decide_eq_true (by first | (with_reducible assumption) | assumption)
                                            obtain ⟨ad302, e302, hx302_0⟩ := Kd.at_int HR2.out x39_2 p302 q302
                                            cases e302
                                            replace hx302_0 := (HB.out.cell (World.block_lt_of_cell? w _ hx302_0)).trans hx302_0
                                            replace p302 := eq_true p302
                                            replace q302 := eq_true q302
                                            go_wp2_with (first | ((with_reducible refine gate_callee (f := 12) rfl ?_); refine goesL_ (some 69) rfl rfl Try.func12 (by kernel_rfl) rfl #[.pointer (some ⟨gb288, 0, none⟩), .int .i64 (rd l2 x39_2)] rfl (by (try simp only [List.map_toArray, List.map_cons, List.map_nil]); first | done | rfl | (simp only [List.length_drop, List.length_take]; rfl)) ?_; (with_reducible refine (bucket_Bucket_Next.calls gb288 x289000_3 x289001_3 x289002_3 x289003_3 x289004_3 x289005_3 x289006_3 (rd l2 x39_2) t303 t304 t305 t306 t307 t308 t309 t310 w _ ?side1 ?side2 A34.out).mono ?_); (case side1 => repeat (first | (with_reducible first | exact HI288.out | apply IsS45.alloc | apply IsS45.drewN | apply IsS45.drew | apply IsS45.set_0 | apply IsS45.set_1 | apply IsS45.set_2 | apply IsS45.set_3 | apply IsS45.set_4 | apply IsS45.set_5 | apply IsS45.set_6) | exact HI288.out)); (case side2 => repeat (first | (with_reducible first | exact HB.out | apply below_alloc | apply pw_below_drewN | apply below_drew1 | refine below_set ?_ (IsS45.ge HI288.out)) | exact HB.out)); rintro e w45 ⟨rfl, hi, hb, hk⟩; refine ⟨_, rfl, ?_⟩; have n0_ := Aside0.mk (hb); have n1_ := Aside0.mk (hi); clear HB; clear HI288; have HB := n0_; have HI288 := n1_; clear n0_ n1_; (try clear hb); (try clear hb2); (try clear hk); (try clear hi); have p311 : 0 ≤ (x39_2 : Int) := of_decide_eq_true (by first | (with_reducible assumption) | assumption); have q311 : x39_2 < (l2.length : Int) := of_decide_eq_true (by first | (with_reducible assumption) | assumption); obtain ⟨ad311, e311, hx311_0⟩ := Kd.at_int HR2.out x39_2 p311 q311; obtain rfl : ad302 = ad311 := (by injection e311); replace hx311_0 := (HB.out.cell (World.block_lt_of_cell? w _ hx311_0)).trans hx311_0; replace p311 := eq_true p311; replace q311 := eq_true q311) | ((with_reducible refine gate_callee (f := 19) rfl ?_); refine goesL_ (some 74) rfl rfl Try.func19 (by kernel_rfl) rfl #[.int .i64 (rd l2 x39_2)] rfl (by (try simp only [List.map_toArray, List.map_cons, List.map_nil]); first | done | rfl | (simp only [List.length_drop, List.length_take]; rfl)) ?_; (with_reducible refine (tocsinref14_Far.calls (rd l2 x39_2) false _ A35.out).mono ?_); rintro e w' ⟨rfl, ⟨nd, rfl⟩⟩; refine ⟨_, rfl, ?_⟩; have p313 : 0 ≤ (x39_2 : Int) := of_decide_eq_true (by first | (with_reducible assumption) | assumption); have q313 : x39_2 < (l2.length : Int) := of_decide_eq_true (by first | (with_reducible assumption) | assumption); obtain ⟨ad313, e313, hx313_0⟩ := Kd.at_int HR2.out x39_2 p313 q313; obtain rfl : ad302 = ad313 := (by injection e313); replace hx313_0 := (HB.out.cell (World.block_lt_of_cell? w _ hx313_0)).trans hx313_0; replace p313 := eq_true p313; replace q313 := eq_true q313; have p314 : 0 ≤ (x39_2 : Int) := of_decide_eq_true (by first | (with_reducible assumption) | assumption); have q314 : x39_2 < (l2.length : Int) := of_decide_eq_true (by first | (with_reducible assumption) | assumption); obtain ⟨ad314, e314, hx314_0⟩ := Kd.at_int HR2.out x39_2 p314 q314; obtain rfl : ad302 = ad314 := (by injection e314); replace hx314_0 := (HB.out.cell (World.block_lt_of_cell? w _ hx314_0)).trans hx314_0; replace p314 := eq_true p314; replace q314 := eq_true q314) | (go_at_call 15; (with_reducible refine (bucket_Bucket_Take.calls gb288 t304 t305 t306 t307 t308 t309 t310 (wrap64 (t303 - 1)) true t316 t317 t318 t319 t320 t321 t322 w _ ?side1 ?side2 A43.out).mono ?_); (case side1 => repeat (first | (with_reducible first | exact HI288.out | apply IsS45.alloc | apply IsS45.drewN | apply IsS45.drew | apply IsS45.set_0 | apply IsS45.set_1 | apply IsS45.set_2 | apply IsS45.set_3 | apply IsS45.set_4 | apply IsS45.set_5 | apply IsS45.set_6) | exact HI288.out)); (case side2 => repeat (first | (with_reducible first | exact HB.out | apply below_alloc | apply pw_below_drewN | apply below_drew1 | refine below_set ?_ (IsS45.ge HI288.out)) | exact HB.out)); rintro e w46 ⟨rfl, hi, hb, hk⟩; have n0_ := Aside0.mk (hb); have n1_ := Aside0.mk (hi); clear HB; clear HI288; have HB := n0_; have HI288 := n1_; clear n0_ n1_; (try clear hb); (try clear hb2); (try clear hk); (try clear hi)))
                                            go_ret
                                            exact ⟨by first | rfl | (simp [errW_none, errW_some] <;> rfl) | (simp only [← hji16]; first | rfl | (simp [errW_none, errW_some] <;> rfl)) | (simp [*, errW_none, errW_some] <;> rfl), by repeat (first | (with_reducible first | exact HB.out | apply below_alloc | apply pw_below_drewN | apply below_drew1 | refine below_set ?_ (IsS45.ge HI288.out)) | exact HB.out)⟩
                                          · replace c44 := Bool.eq_false_iff.mpr c44
                                            subst c44
                                            have H1 : ((tocsinref14_Far.f t303).bind fun t323 => (if t323 = true then (tocsinlaw14_BucketNexts.l0 k3 a0 a1 l2 (y283.length : Int) (wrap64 (x39_2 + 1))) else ((bucket_Bucket_Take.f t316 t317 t318 t319 t320 t321 t322 t303).bind fun bt324 => (if bt324.1 = true then (tocsinlaw14_BucketNexts.l0 k3 a0 a1 l2 (y283.length : Int) (wrap64 (x39_2 + 1))) else (some false))))) = some r := by rw [if_neg (show ¬ (false = true) by decide)] at H; exact H
                                            clear H
                                            have H := H1
                                            clear H1
                                            replace H := Option.bind_eq_some_iff.mp H
                                            obtain ⟨t323, A470, H⟩ := H
                                            replace H : (if t323 = true then (tocsinlaw14_BucketNexts.l0 k3 a0 a1 l2 (y283.length : Int) (wrap64 (x39_2 + 1))) else ((bucket_Bucket_Take.f t316 t317 t318 t319 t320 t321 t322 t303).bind fun bt324 => (if bt324.1 = true then (tocsinlaw14_BucketNexts.l0 k3 a0 a1 l2 (y283.length : Int) (wrap64 (x39_2 + 1))) else (some false)))) = some r := H
                                            have A47 := Aside0.mk A470
                                            clear A470
                                            by_cases c48 : t323 = true
                                            · subst c48
                                              have H1 : (tocsinlaw14_BucketNexts.l0 k3 a0 a1 l2 (y283.length : Int) (wrap64 (x39_2 + 1))) = some r := by rw [if_pos rfl] at H; exact H
                                              clear H
                                              have H := H1
                                              clear H1
                                              have H' := Aside0.mk H
                                              clear H
                                              have p302 : 0 ≤ (x39_2 : Int) := of_decide_eq_true (by first | (with_reducible assumption) | assumption)
                                              have q302 : x39_2 < (l2.length : Int) := of_decide_eq_true (by first | (with_reducible assumption) | assumption)
                                              obtain ⟨ad302, e302, hx302_0⟩ := Kd.at_int HR2.out x39_2 p302 q302
                                              cases e302
                                              replace hx302_0 := (HB.out.cell (World.block_lt_of_cell? w _ hx302_0)).trans hx302_0
                                              replace p302 := eq_true p302
                                              replace q302 := eq_true q302
                                              go_wp2_with (first | ((with_reducible refine gate_callee (f := 12) rfl ?_); refine goesL_ (some 69) rfl rfl Try.func12 (by kernel_rfl) rfl #[.pointer (some ⟨gb288, 0, none⟩), .int .i64 (rd l2 x39_2)] rfl (by (try simp only [List.map_toArray, List.map_cons, List.map_nil]); first | done | rfl | (simp only [List.length_drop, List.length_take]; rfl)) ?_; (with_reducible refine (bucket_Bucket_Next.calls gb288 x289000_3 x289001_3 x289002_3 x289003_3 x289004_3 x289005_3 x289006_3 (rd l2 x39_2) t303 t304 t305 t306 t307 t308 t309 t310 w _ ?side1 ?side2 A34.out).mono ?_); (case side1 => repeat (first | (with_reducible first | exact HI288.out | apply IsS45.alloc | apply IsS45.drewN | apply IsS45.drew | apply IsS45.set_0 | apply IsS45.set_1 | apply IsS45.set_2 | apply IsS45.set_3 | apply IsS45.set_4 | apply IsS45.set_5 | apply IsS45.set_6) | exact HI288.out)); (case side2 => repeat (first | (with_reducible first | exact HB.out | apply below_alloc | apply pw_below_drewN | apply below_drew1 | refine below_set ?_ (IsS45.ge HI288.out)) | exact HB.out)); rintro e w49 ⟨rfl, hi, hb, hk⟩; refine ⟨_, rfl, ?_⟩; have n0_ := Aside0.mk (hb); have n1_ := Aside0.mk (hi); clear HB; clear HI288; have HB := n0_; have HI288 := n1_; clear n0_ n1_; (try clear hb); (try clear hb2); (try clear hk); (try clear hi); have p311 : 0 ≤ (x39_2 : Int) := of_decide_eq_true (by first | (with_reducible assumption) | assumption); have q311 : x39_2 < (l2.length : Int) := of_decide_eq_true (by first | (with_reducible assumption) | assumption); obtain ⟨ad311, e311, hx311_0⟩ := Kd.at_int HR2.out x39_2 p311 q311; obtain rfl : ad302 = ad311 := (by injection e311); replace hx311_0 := (HB.out.cell (World.block_lt_of_cell? w _ hx311_0)).trans hx311_0; replace p311 := eq_true p311; replace q311 := eq_true q311) | ((with_reducible refine gate_callee (f := 19) rfl ?_); refine goesL_ (some 74) rfl rfl Try.func19 (by kernel_rfl) rfl #[.int .i64 (rd l2 x39_2)] rfl (by (try simp only [List.map_toArray, List.map_cons, List.map_nil]); first | done | rfl | (simp only [List.length_drop, List.length_take]; rfl)) ?_; (with_reducible refine (tocsinref14_Far.calls (rd l2 x39_2) false _ A35.out).mono ?_); rintro e w' ⟨rfl, ⟨nd, rfl⟩⟩; refine ⟨_, rfl, ?_⟩; have p313 : 0 ≤ (x39_2 : Int) := of_decide_eq_true (by first | (with_reducible assumption) | assumption); have q313 : x39_2 < (l2.length : Int) := of_decide_eq_true (by first | (with_reducible assumption) | assumption); obtain ⟨ad313, e313, hx313_0⟩ := Kd.at_int HR2.out x39_2 p313 q313; obtain rfl : ad302 = ad313 := (by injection e313); replace hx313_0 := (HB.out.cell (World.block_lt_of_cell? w _ hx313_0)).trans hx313_0; replace p313 := eq_true p313; replace q313 := eq_true q313; have p314 : 0 ≤ (x39_2 : Int) := of_decide_eq_true (by first | (with_reducible assumption) | assumption); have q314 : x39_2 < (l2.length : Int) := of_decide_eq_true (by first | (with_reducible assumption) | assumption); obtain ⟨ad314, e314, hx314_0⟩ := Kd.at_int HR2.out x39_2 p314 q314; obtain rfl : ad302 = ad314 := (by injection e314); replace hx314_0 := (HB.out.cell (World.block_lt_of_cell? w _ hx314_0)).trans hx314_0; replace p314 := eq_true p314; replace q314 := eq_true q314) | (go_at_call 15; (with_reducible refine (bucket_Bucket_Take.calls gb288 t304 t305 t306 t307 t308 t309 t310 (wrap64 (t303 - 1)) false t316 t317 t318 t319 t320 t321 t322 w _ ?side1 ?side2 A43.out).mono ?_); (case side1 => repeat (first | (with_reducible first | exact HI288.out | apply IsS45.alloc | apply IsS45.drewN | apply IsS45.drew | apply IsS45.set_0 | apply IsS45.set_1 | apply IsS45.set_2 | apply IsS45.set_3 | apply IsS45.set_4 | apply IsS45.set_5 | apply IsS45.set_6) | exact HI288.out)); (case side2 => repeat (first | (with_reducible first | exact HB.out | apply below_alloc | apply pw_below_drewN | apply below_drew1 | refine below_set ?_ (IsS45.ge HI288.out)) | exact HB.out)); rintro e w50 ⟨rfl, hi, hb, hk⟩; have n0_ := Aside0.mk (hb); have n1_ := Aside0.mk (hi); clear HB; clear HI288; have HB := n0_; have HI288 := n1_; clear n0_ n1_; (try clear hb); (try clear hb2); (try clear hk); (try clear hi)) | (go_at_call 19; (with_reducible refine (tocsinref14_Far.calls t303 true _ A47.out).mono ?_); rintro e w' ⟨rfl, ⟨nd, rfl⟩⟩))
                                              go_roundg k3
                                              case measure => have := HJ5.out; have := HK2.out; have := HK3.out; omega
                                              case rel => exact ⟨(wrap64 (x39_2 + 1)), (by first | rfl | (simp; done) | (simp [*]; done)), H', ⟨by have := HJ5.out; have := HK2.out; have := HK3.out; omega⟩, ⟨by repeat (first | (with_reducible first | exact HB.out | apply below_alloc | apply pw_below_drewN | apply below_drew1 | refine below_set ?_ (IsS45.ge HI288.out)) | exact HB.out)⟩⟩
                                            · replace c48 := Bool.eq_false_iff.mpr c48
                                              subst c48
                                              have H1 : ((bucket_Bucket_Take.f t316 t317 t318 t319 t320 t321 t322 t303).bind fun bt324 => (if bt324.1 = true then (tocsinlaw14_BucketNexts.l0 k3 a0 a1 l2 (y283.length : Int) (wrap64 (x39_2 + 1))) else (some false))) = some r := by rw [if_neg (show ¬ (false = true) by decide)] at H; exact H
                                              clear H
                                              have H := H1
                                              clear H1
                                              replace H := Option.bind_eq_some_iff.mp H
                                              obtain ⟨⟨t324, t325, t326, t327, t328, t329, t330, t331⟩, A510, H⟩ := H
                                              replace H : (if t324 = true then (tocsinlaw14_BucketNexts.l0 k3 a0 a1 l2 (y283.length : Int) (wrap64 (x39_2 + 1))) else (some false)) = some r := H
                                              have A51 := Aside0.mk A510
                                              clear A510
                                              by_cases c52 : t324 = true
                                              · subst c52
                                                have H1 : (tocsinlaw14_BucketNexts.l0 k3 a0 a1 l2 (y283.length : Int) (wrap64 (x39_2 + 1))) = some r := by rw [if_pos rfl] at H; exact H
                                                clear H
                                                have H := H1
                                                clear H1
                                                have H' := Aside0.mk H
                                                clear H
                                                have p302 : 0 ≤ (x39_2 : Int) := of_decide_eq_true (by first | (with_reducible assumption) | assumption)
                                                have q302 : x39_2 < (l2.length : Int) := of_decide_eq_true (by first | (with_reducible assumption) | assumption)
                                                obtain ⟨ad302, e302, hx302_0⟩ := Kd.at_int HR2.out x39_2 p302 q302
                                                cases e302
                                                replace hx302_0 := (HB.out.cell (World.block_lt_of_cell? w _ hx302_0)).trans hx302_0
                                                replace p302 := eq_true p302
                                                replace q302 := eq_true q302
                                                go_wp2_with (first | ((with_reducible refine gate_callee (f := 12) rfl ?_); refine goesL_ (some 69) rfl rfl Try.func12 (by kernel_rfl) rfl #[.pointer (some ⟨gb288, 0, none⟩), .int .i64 (rd l2 x39_2)] rfl (by (try simp only [List.map_toArray, List.map_cons, List.map_nil]); first | done | rfl | (simp only [List.length_drop, List.length_take]; rfl)) ?_; (with_reducible refine (bucket_Bucket_Next.calls gb288 x289000_3 x289001_3 x289002_3 x289003_3 x289004_3 x289005_3 x289006_3 (rd l2 x39_2) t303 t304 t305 t306 t307 t308 t309 t310 w _ ?side1 ?side2 A34.out).mono ?_); (case side1 => repeat (first | (with_reducible first | exact HI288.out | apply IsS45.alloc | apply IsS45.drewN | apply IsS45.drew | apply IsS45.set_0 | apply IsS45.set_1 | apply IsS45.set_2 | apply IsS45.set_3 | apply IsS45.set_4 | apply IsS45.set_5 | apply IsS45.set_6) | exact HI288.out)); (case side2 => repeat (first | (with_reducible first | exact HB.out | apply below_alloc | apply pw_below_drewN | apply below_drew1 | refine below_set ?_ (IsS45.ge HI288.out)) | exact HB.out)); rintro e w53 ⟨rfl, hi, hb, hk⟩; refine ⟨_, rfl, ?_⟩; have n0_ := Aside0.mk (hb); have n1_ := Aside0.mk (hi); clear HB; clear HI288; have HB := n0_; have HI288 := n1_; clear n0_ n1_; (try clear hb); (try clear hb2); (try clear hk); (try clear hi); have p311 : 0 ≤ (x39_2 : Int) := of_decide_eq_true (by first | (with_reducible assumption) | assumption); have q311 : x39_2 < (l2.length : Int) := of_decide_eq_true (by first | (with_reducible assumption) | assumption); obtain ⟨ad311, e311, hx311_0⟩ := Kd.at_int HR2.out x39_2 p311 q311; obtain rfl : ad302 = ad311 := (by injection e311); replace hx311_0 := (HB.out.cell (World.block_lt_of_cell? w _ hx311_0)).trans hx311_0; replace p311 := eq_true p311; replace q311 := eq_true q311) | ((with_reducible refine gate_callee (f := 19) rfl ?_); refine goesL_ (some 74) rfl rfl Try.func19 (by kernel_rfl) rfl #[.int .i64 (rd l2 x39_2)] rfl (by (try simp only [List.map_toArray, List.map_cons, List.map_nil]); first | done | rfl | (simp only [List.length_drop, List.length_take]; rfl)) ?_; (with_reducible refine (tocsinref14_Far.calls (rd l2 x39_2) false _ A35.out).mono ?_); rintro e w' ⟨rfl, ⟨nd, rfl⟩⟩; refine ⟨_, rfl, ?_⟩; have p313 : 0 ≤ (x39_2 : Int) := of_decide_eq_true (by first | (with_reducible assumption) | assumption); have q313 : x39_2 < (l2.length : Int) := of_decide_eq_true (by first | (with_reducible assumption) | assumption); obtain ⟨ad313, e313, hx313_0⟩ := Kd.at_int HR2.out x39_2 p313 q313; obtain rfl : ad302 = ad313 := (by injection e313); replace hx313_0 := (HB.out.cell (World.block_lt_of_cell? w _ hx313_0)).trans hx313_0; replace p313 := eq_true p313; replace q313 := eq_true q313; have p314 : 0 ≤ (x39_2 : Int) := of_decide_eq_true (by first | (with_reducible assumption) | assumption); have q314 : x39_2 < (l2.length : Int) := of_decide_eq_true (by first | (with_reducible assumption) | assumption); obtain ⟨ad314, e314, hx314_0⟩ := Kd.at_int HR2.out x39_2 p314 q314; obtain rfl : ad302 = ad314 := (by injection e314); replace hx314_0 := (HB.out.cell (World.block_lt_of_cell? w _ hx314_0)).trans hx314_0; replace p314 := eq_true p314; replace q314 := eq_true q314) | (go_at_call 15; (with_reducible refine (bucket_Bucket_Take.calls gb288 t304 t305 t306 t307 t308 t309 t310 (wrap64 (t303 - 1)) false t316 t317 t318 t319 t320 t321 t322 w _ ?side1 ?side2 A43.out).mono ?_); (case side1 => repeat (first | (with_reducible first | exact HI288.out | apply IsS45.alloc | apply IsS45.drewN | apply IsS45.drew | apply IsS45.set_0 | apply IsS45.set_1 | apply IsS45.set_2 | apply IsS45.set_3 | apply IsS45.set_4 | apply IsS45.set_5 | apply IsS45.set_6) | exact HI288.out)); (case side2 => repeat (first | (with_reducible first | exact HB.out | apply below_alloc | apply pw_below_drewN | apply below_drew1 | refine below_set ?_ (IsS45.ge HI288.out)) | exact HB.out)); rintro e w54 ⟨rfl, hi, hb, hk⟩; have n0_ := Aside0.mk (hb); have n1_ := Aside0.mk (hi); clear HB; clear HI288; have HB := n0_; have HI288 := n1_; clear n0_ n1_; (try clear hb); (try clear hb2); (try clear hk); (try clear hi)) | (go_at_call 19; (with_reducible refine (tocsinref14_Far.calls t303 false _ A47.out).mono ?_); rintro e w' ⟨rfl, ⟨nd, rfl⟩⟩) | (go_at_call 15; (with_reducible refine (bucket_Bucket_Take.calls gb288 t316 t317 t318 t319 t320 t321 t322 t303 true t325 t326 t327 t328 t329 t330 t331 w _ ?side1 ?side2 A51.out).mono ?_); (case side1 => repeat (first | (with_reducible first | exact HI288.out | apply IsS45.alloc | apply IsS45.drewN | apply IsS45.drew | apply IsS45.set_0 | apply IsS45.set_1 | apply IsS45.set_2 | apply IsS45.set_3 | apply IsS45.set_4 | apply IsS45.set_5 | apply IsS45.set_6) | exact HI288.out)); (case side2 => repeat (first | (with_reducible first | exact HB.out | apply below_alloc | apply pw_below_drewN | apply below_drew1 | refine below_set ?_ (IsS45.ge HI288.out)) | exact HB.out)); rintro e w55 ⟨rfl, hi, hb, hk⟩; have n0_ := Aside0.mk (hb); have n1_ := Aside0.mk (hi); clear HB; clear HI288; have HB := n0_; have HI288 := n1_; clear n0_ n1_; (try clear hb); (try clear hb2); (try clear hk); (try clear hi)))
                                                go_roundg k3
                                                case measure => have := HJ5.out; have := HK2.out; have := HK3.out; omega
                                                case rel => exact ⟨(wrap64 (x39_2 + 1)), (by first | rfl | (simp; done) | (simp [*]; done)), H', ⟨by have := HJ5.out; have := HK2.out; have := HK3.out; omega⟩, ⟨by repeat (first | (with_reducible first | exact HB.out | apply below_alloc | apply pw_below_drewN | apply below_drew1 | refine below_set ?_ (IsS45.ge HI288.out)) | exact HB.out)⟩⟩
                                              · replace c52 := Bool.eq_false_iff.mpr c52
                                                subst c52
                                                have H1 : (some false) = some r := by rw [if_neg (show ¬ (false = true) by decide)] at H; exact H
                                                clear H
                                                have H := H1
                                                clear H1
                                                obtain rfl := Option.some.inj H
                                                have p302 : 0 ≤ (x39_2 : Int) := of_decide_eq_true (by first | (with_reducible assumption) | assumption)
                                                have q302 : x39_2 < (l2.length : Int) := of_decide_eq_true (by first | (with_reducible assumption) | assumption)
                                                obtain ⟨ad302, e302, hx302_0⟩ := Kd.at_int HR2.out x39_2 p302 q302
                                                cases e302
                                                replace hx302_0 := (HB.out.cell (World.block_lt_of_cell? w _ hx302_0)).trans hx302_0
                                                replace p302 := eq_true p302
                                                replace q302 := eq_true q302
                                                go_wp2_with (first | ((with_reducible refine gate_callee (f := 12) rfl ?_); refine goesL_ (some 69) rfl rfl Try.func12 (by kernel_rfl) rfl #[.pointer (some ⟨gb288, 0, none⟩), .int .i64 (rd l2 x39_2)] rfl (by (try simp only [List.map_toArray, List.map_cons, List.map_nil]); first | done | rfl | (simp only [List.length_drop, List.length_take]; rfl)) ?_; (with_reducible refine (bucket_Bucket_Next.calls gb288 x289000_3 x289001_3 x289002_3 x289003_3 x289004_3 x289005_3 x289006_3 (rd l2 x39_2) t303 t304 t305 t306 t307 t308 t309 t310 w _ ?side1 ?side2 A34.out).mono ?_); (case side1 => repeat (first | (with_reducible first | exact HI288.out | apply IsS45.alloc | apply IsS45.drewN | apply IsS45.drew | apply IsS45.set_0 | apply IsS45.set_1 | apply IsS45.set_2 | apply IsS45.set_3 | apply IsS45.set_4 | apply IsS45.set_5 | apply IsS45.set_6) | exact HI288.out)); (case side2 => repeat (first | (with_reducible first | exact HB.out | apply below_alloc | apply pw_below_drewN | apply below_drew1 | refine below_set ?_ (IsS45.ge HI288.out)) | exact HB.out)); rintro e w56 ⟨rfl, hi, hb, hk⟩; refine ⟨_, rfl, ?_⟩; have n0_ := Aside0.mk (hb); have n1_ := Aside0.mk (hi); clear HB; clear HI288; have HB := n0_; have HI288 := n1_; clear n0_ n1_; (try clear hb); (try clear hb2); (try clear hk); (try clear hi); have p311 : 0 ≤ (x39_2 : Int) := of_decide_eq_true (by first | (with_reducible assumption) | assumption); have q311 : x39_2 < (l2.length : Int) := of_decide_eq_true (by first | (with_reducible assumption) | assumption); obtain ⟨ad311, e311, hx311_0⟩ := Kd.at_int HR2.out x39_2 p311 q311; obtain rfl : ad302 = ad311 := (by injection e311); replace hx311_0 := (HB.out.cell (World.block_lt_of_cell? w _ hx311_0)).trans hx311_0; replace p311 := eq_true p311; replace q311 := eq_true q311) | ((with_reducible refine gate_callee (f := 19) rfl ?_); refine goesL_ (some 74) rfl rfl Try.func19 (by kernel_rfl) rfl #[.int .i64 (rd l2 x39_2)] rfl (by (try simp only [List.map_toArray, List.map_cons, List.map_nil]); first | done | rfl | (simp only [List.length_drop, List.length_take]; rfl)) ?_; (with_reducible refine (tocsinref14_Far.calls (rd l2 x39_2) false _ A35.out).mono ?_); rintro e w' ⟨rfl, ⟨nd, rfl⟩⟩; refine ⟨_, rfl, ?_⟩; have p313 : 0 ≤ (x39_2 : Int) := of_decide_eq_true (by first | (with_reducible assumption) | assumption); have q313 : x39_2 < (l2.length : Int) := of_decide_eq_true (by first | (with_reducible assumption) | assumption); obtain ⟨ad313, e313, hx313_0⟩ := Kd.at_int HR2.out x39_2 p313 q313; obtain rfl : ad302 = ad313 := (by injection e313); replace hx313_0 := (HB.out.cell (World.block_lt_of_cell? w _ hx313_0)).trans hx313_0; replace p313 := eq_true p313; replace q313 := eq_true q313; have p314 : 0 ≤ (x39_2 : Int) := of_decide_eq_true (by first | (with_reducible assumption) | assumption); have q314 : x39_2 < (l2.length : Int) := of_decide_eq_true (by first | (with_reducible assumption) | assumption); obtain ⟨ad314, e314, hx314_0⟩ := Kd.at_int HR2.out x39_2 p314 q314; obtain rfl : ad302 = ad314 := (by injection e314); replace hx314_0 := (HB.out.cell (World.block_lt_of_cell? w _ hx314_0)).trans hx314_0; replace p314 := eq_true p314; replace q314 := eq_true q314) | (go_at_call 15; (with_reducible refine (bucket_Bucket_Take.calls gb288 t304 t305 t306 t307 t308 t309 t310 (wrap64 (t303 - 1)) false t316 t317 t318 t319 t320 t321 t322 w _ ?side1 ?side2 A43.out).mono ?_); (case side1 => repeat (first | (with_reducible first | exact HI288.out | apply IsS45.alloc | apply IsS45.drewN | apply IsS45.drew | apply IsS45.set_0 | apply IsS45.set_1 | apply IsS45.set_2 | apply IsS45.set_3 | apply IsS45.set_4 | apply IsS45.set_5 | apply IsS45.set_6) | exact HI288.out)); (case side2 => repeat (first | (with_reducible first | exact HB.out | apply below_alloc | apply pw_below_drewN | apply below_drew1 | refine below_set ?_ (IsS45.ge HI288.out)) | exact HB.out)); rintro e w57 ⟨rfl, hi, hb, hk⟩; have n0_ := Aside0.mk (hb); have n1_ := Aside0.mk (hi); clear HB; clear HI288; have HB := n0_; have HI288 := n1_; clear n0_ n1_; (try clear hb); (try clear hb2); (try clear hk); (try clear hi)) | (go_at_call 19; (with_reducible refine (tocsinref14_Far.calls t303 false _ A47.out).mono ?_); rintro e w' ⟨rfl, ⟨nd, rfl⟩⟩) | (go_at_call 15; (with_reducible refine (bucket_Bucket_Take.calls gb288 t316 t317 t318 t319 t320 t321 t322 t303 false t325 t326 t327 t328 t329 t330 t331 w _ ?side1 ?side2 A51.out).mono ?_); (case side1 => repeat (first | (with_reducible first | exact HI288.out | apply IsS45.alloc | apply IsS45.drewN | apply IsS45.drew | apply IsS45.set_0 | apply IsS45.set_1 | apply IsS45.set_2 | apply IsS45.set_3 | apply IsS45.set_4 | apply IsS45.set_5 | apply IsS45.set_6) | exact HI288.out)); (case side2 => repeat (first | (with_reducible first | exact HB.out | apply below_alloc | apply pw_below_drewN | apply below_drew1 | refine below_set ?_ (IsS45.ge HI288.out)) | exact HB.out)); rintro e w58 ⟨rfl, hi, hb, hk⟩; have n0_ := Aside0.mk (hb); have n1_ := Aside0.mk (hi); clear HB; clear HI288; have HB := n0_; have HI288 := n1_; clear n0_ n1_; (try clear hb); (try clear hb2); (try clear hk); (try clear hi)))
                                                go_ret
                                                exact ⟨by first | rfl | (simp [errW_none, errW_some] <;> rfl) | (simp only [← hji16]; first | rfl | (simp [errW_none, errW_some] <;> rfl)) | (simp [*, errW_none, errW_some] <;> rfl), by repeat (first | (with_reducible first | exact HB.out | apply below_alloc | apply pw_below_drewN | apply below_drew1 | refine below_set ?_ (IsS45.ge HI288.out)) | exact HB.out)⟩
                                        · rw [if_neg c42] at H
                                          have c42b0 : decide ((rd l2 x39_2) < t303) = false := decide_eq_false c42
                                          clear c42
                                          replace H := Option.bind_eq_some_iff.mp H
                                          obtain ⟨t332, A590, H⟩ := H
                                          replace H : (if t332 = true then (tocsinlaw14_BucketNexts.l0 k3 a0 a1 l2 (y283.length : Int) (wrap64 (x39_2 + 1))) else ((bucket_Bucket_Take.f t304 t305 t306 t307 t308 t309 t310 t303).bind fun bt333 => (if bt333.1 = true then (tocsinlaw14_BucketNexts.l0 k3 a0 a1 l2 (y283.length : Int) (wrap64 (x39_2 + 1))) else (some false)))) = some r := H
                                          have A59 := Aside0.mk A590
                                          clear A590
                                          by_cases c60 : t332 = true
                                          · subst c60
                                            have H1 : (tocsinlaw14_BucketNexts.l0 k3 a0 a1 l2 (y283.length : Int) (wrap64 (x39_2 + 1))) = some r := by rw [if_pos rfl] at H; exact H
                                            clear H
                                            have H := H1
                                            clear H1
                                            have H' := Aside0.mk H
                                            clear H
                                            have p302 : 0 ≤ (x39_2 : Int) := of_decide_eq_true (by first | (with_reducible assumption) | assumption)
                                            have q302 : x39_2 < (l2.length : Int) := of_decide_eq_true (by first | (with_reducible assumption) | assumption)
                                            obtain ⟨ad302, e302, hx302_0⟩ := Kd.at_int HR2.out x39_2 p302 q302
                                            cases e302
                                            replace hx302_0 := (HB.out.cell (World.block_lt_of_cell? w _ hx302_0)).trans hx302_0
                                            replace p302 := eq_true p302
                                            replace q302 := eq_true q302
                                            go_wp2_with (first | ((with_reducible refine gate_callee (f := 12) rfl ?_); refine goesL_ (some 69) rfl rfl Try.func12 (by kernel_rfl) rfl #[.pointer (some ⟨gb288, 0, none⟩), .int .i64 (rd l2 x39_2)] rfl (by (try simp only [List.map_toArray, List.map_cons, List.map_nil]); first | done | rfl | (simp only [List.length_drop, List.length_take]; rfl)) ?_; (with_reducible refine (bucket_Bucket_Next.calls gb288 x289000_3 x289001_3 x289002_3 x289003_3 x289004_3 x289005_3 x289006_3 (rd l2 x39_2) t303 t304 t305 t306 t307 t308 t309 t310 w _ ?side1 ?side2 A34.out).mono ?_); (case side1 => repeat (first | (with_reducible first | exact HI288.out | apply IsS45.alloc | apply IsS45.drewN | apply IsS45.drew | apply IsS45.set_0 | apply IsS45.set_1 | apply IsS45.set_2 | apply IsS45.set_3 | apply IsS45.set_4 | apply IsS45.set_5 | apply IsS45.set_6) | exact HI288.out)); (case side2 => repeat (first | (with_reducible first | exact HB.out | apply below_alloc | apply pw_below_drewN | apply below_drew1 | refine below_set ?_ (IsS45.ge HI288.out)) | exact HB.out)); rintro e w61 ⟨rfl, hi, hb, hk⟩; refine ⟨_, rfl, ?_⟩; have n0_ := Aside0.mk (hb); have n1_ := Aside0.mk (hi); clear HB; clear HI288; have HB := n0_; have HI288 := n1_; clear n0_ n1_; (try clear hb); (try clear hb2); (try clear hk); (try clear hi); have p311 : 0 ≤ (x39_2 : Int) := of_decide_eq_true (by first | (with_reducible assumption) | assumption); have q311 : x39_2 < (l2.length : Int) := of_decide_eq_true (by first | (with_reducible assumption) | assumption); obtain ⟨ad311, e311, hx311_0⟩ := Kd.at_int HR2.out x39_2 p311 q311; obtain rfl : ad302 = ad311 := (by injection e311); replace hx311_0 := (HB.out.cell (World.block_lt_of_cell? w _ hx311_0)).trans hx311_0; replace p311 := eq_true p311; replace q311 := eq_true q311) | ((with_reducible refine gate_callee (f := 19) rfl ?_); refine goesL_ (some 74) rfl rfl Try.func19 (by kernel_rfl) rfl #[.int .i64 (rd l2 x39_2)] rfl (by (try simp only [List.map_toArray, List.map_cons, List.map_nil]); first | done | rfl | (simp only [List.length_drop, List.length_take]; rfl)) ?_; (with_reducible refine (tocsinref14_Far.calls (rd l2 x39_2) false _ A35.out).mono ?_); rintro e w' ⟨rfl, ⟨nd, rfl⟩⟩; refine ⟨_, rfl, ?_⟩; have p313 : 0 ≤ (x39_2 : Int) := of_decide_eq_true (by first | (with_reducible assumption) | assumption); have q313 : x39_2 < (l2.length : Int) := of_decide_eq_true (by first | (with_reducible assumption) | assumption); obtain ⟨ad313, e313, hx313_0⟩ := Kd.at_int HR2.out x39_2 p313 q313; obtain rfl : ad302 = ad313 := (by injection e313); replace hx313_0 := (HB.out.cell (World.block_lt_of_cell? w _ hx313_0)).trans hx313_0; replace p313 := eq_true p313; replace q313 := eq_true q313; have p314 : 0 ≤ (x39_2 : Int) := of_decide_eq_true (by first | (with_reducible assumption) | assumption); have q314 : x39_2 < (l2.length : Int) := of_decide_eq_true (by first | (with_reducible assumption) | assumption); obtain ⟨ad314, e314, hx314_0⟩ := Kd.at_int HR2.out x39_2 p314 q314; obtain rfl : ad302 = ad314 := (by injection e314); replace hx314_0 := (HB.out.cell (World.block_lt_of_cell? w _ hx314_0)).trans hx314_0; replace p314 := eq_true p314; replace q314 := eq_true q314) | (go_at_call 19; (with_reducible refine (tocsinref14_Far.calls t303 true _ A59.out).mono ?_); rintro e w' ⟨rfl, ⟨nd, rfl⟩⟩))
                                            go_roundg k3
                                            case measure => have := HJ5.out; have := HK2.out; have := HK3.out; omega
                                            case rel => exact ⟨(wrap64 (x39_2 + 1)), (by first | rfl | (simp; done) | (simp [*]; done)), H', ⟨by have := HJ5.out; have := HK2.out; have := HK3.out; omega⟩, ⟨by repeat (first | (with_reducible first | exact HB.out | apply below_alloc | apply pw_below_drewN | apply below_drew1 | refine below_set ?_ (IsS45.ge HI288.out)) | exact HB.out)⟩⟩
                                          · replace c60 := Bool.eq_false_iff.mpr c60
                                            subst c60
                                            have H1 : ((bucket_Bucket_Take.f t304 t305 t306 t307 t308 t309 t310 t303).bind fun bt333 => (if bt333.1 = true then (tocsinlaw14_BucketNexts.l0 k3 a0 a1 l2 (y283.length : Int) (wrap64 (x39_2 + 1))) else (some false))) = some r := by rw [if_neg (show ¬ (false = true) by decide)] at H; exact H
                                            clear H
                                            have H := H1
                                            clear H1
                                            replace H := Option.bind_eq_some_iff.mp H
                                            obtain ⟨⟨t333, t334, t335, t336, t337, t338, t339, t340⟩, A620, H⟩ := H
                                            replace H : (if t333 = true then (tocsinlaw14_BucketNexts.l0 k3 a0 a1 l2 (y283.length : Int) (wrap64 (x39_2 + 1))) else (some false)) = some r := H
                                            have A62 := Aside0.mk A620
                                            clear A620
                                            by_cases c63 : t333 = true
                                            · subst c63
                                              have H1 : (tocsinlaw14_BucketNexts.l0 k3 a0 a1 l2 (y283.length : Int) (wrap64 (x39_2 + 1))) = some r := by rw [if_pos rfl] at H; exact H
                                              clear H
                                              have H := H1
                                              clear H1
                                              have H' := Aside0.mk H
                                              clear H
                                              have p302 : 0 ≤ (x39_2 : Int) := of_decide_eq_true (by first | (with_reducible assumption) | assumption)
                                              have q302 : x39_2 < (l2.length : Int) := of_decide_eq_true (by first | (with_reducible assumption) | assumption)
                                              obtain ⟨ad302, e302, hx302_0⟩ := Kd.at_int HR2.out x39_2 p302 q302
                                              cases e302
                                              replace hx302_0 := (HB.out.cell (World.block_lt_of_cell? w _ hx302_0)).trans hx302_0
                                              replace p302 := eq_true p302
                                              replace q302 := eq_true q302
                                              go_wp2_with (first | ((with_reducible refine gate_callee (f := 12) rfl ?_); refine goesL_ (some 69) rfl rfl Try.func12 (by kernel_rfl) rfl #[.pointer (some ⟨gb288, 0, none⟩), .int .i64 (rd l2 x39_2)] rfl (by (try simp only [List.map_toArray, List.map_cons, List.map_nil]); first | done | rfl | (simp only [List.length_drop, List.length_take]; rfl)) ?_; (with_reducible refine (bucket_Bucket_Next.calls gb288 x289000_3 x289001_3 x289002_3 x289003_3 x289004_3 x289005_3 x289006_3 (rd l2 x39_2) t303 t304 t305 t306 t307 t308 t309 t310 w _ ?side1 ?side2 A34.out).mono ?_); (case side1 => repeat (first | (with_reducible first | exact HI288.out | apply IsS45.alloc | apply IsS45.drewN | apply IsS45.drew | apply IsS45.set_0 | apply IsS45.set_1 | apply IsS45.set_2 | apply IsS45.set_3 | apply IsS45.set_4 | apply IsS45.set_5 | apply IsS45.set_6) | exact HI288.out)); (case side2 => repeat (first | (with_reducible first | exact HB.out | apply below_alloc | apply pw_below_drewN | apply below_drew1 | refine below_set ?_ (IsS45.ge HI288.out)) | exact HB.out)); rintro e w64 ⟨rfl, hi, hb, hk⟩; refine ⟨_, rfl, ?_⟩; have n0_ := Aside0.mk (hb); have n1_ := Aside0.mk (hi); clear HB; clear HI288; have HB := n0_; have HI288 := n1_; clear n0_ n1_; (try clear hb); (try clear hb2); (try clear hk); (try clear hi); have p311 : 0 ≤ (x39_2 : Int) := of_decide_eq_true (by first | (with_reducible assumption) | assumption); have q311 : x39_2 < (l2.length : Int) := of_decide_eq_true (by first | (with_reducible assumption) | assumption); obtain ⟨ad311, e311, hx311_0⟩ := Kd.at_int HR2.out x39_2 p311 q311; obtain rfl : ad302 = ad311 := (by injection e311); replace hx311_0 := (HB.out.cell (World.block_lt_of_cell? w _ hx311_0)).trans hx311_0; replace p311 := eq_true p311; replace q311 := eq_true q311) | ((with_reducible refine gate_callee (f := 19) rfl ?_); refine goesL_ (some 74) rfl rfl Try.func19 (by kernel_rfl) rfl #[.int .i64 (rd l2 x39_2)] rfl (by (try simp only [List.map_toArray, List.map_cons, List.map_nil]); first | done | rfl | (simp only [List.length_drop, List.length_take]; rfl)) ?_; (with_reducible refine (tocsinref14_Far.calls (rd l2 x39_2) false _ A35.out).mono ?_); rintro e w' ⟨rfl, ⟨nd, rfl⟩⟩; refine ⟨_, rfl, ?_⟩; have p313 : 0 ≤ (x39_2 : Int) := of_decide_eq_true (by first | (with_reducible assumption) | assumption); have q313 : x39_2 < (l2.length : Int) := of_decide_eq_true (by first | (with_reducible assumption) | assumption); obtain ⟨ad313, e313, hx313_0⟩ := Kd.at_int HR2.out x39_2 p313 q313; obtain rfl : ad302 = ad313 := (by injection e313); replace hx313_0 := (HB.out.cell (World.block_lt_of_cell? w _ hx313_0)).trans hx313_0; replace p313 := eq_true p313; replace q313 := eq_true q313; have p314 : 0 ≤ (x39_2 : Int) := of_decide_eq_true (by first | (with_reducible assumption) | assumption); have q314 : x39_2 < (l2.length : Int) := of_decide_eq_true (by first | (with_reducible assumption) | assumption); obtain ⟨ad314, e314, hx314_0⟩ := Kd.at_int HR2.out x39_2 p314 q314; obtain rfl : ad302 = ad314 := (by injection e314); replace hx314_0 := (HB.out.cell (World.block_lt_of_cell? w _ hx314_0)).trans hx314_0; replace p314 := eq_true p314; replace q314 := eq_true q314) | (go_at_call 19; (with_reducible refine (tocsinref14_Far.calls t303 false _ A59.out).mono ?_); rintro e w' ⟨rfl, ⟨nd, rfl⟩⟩) | (go_at_call 15; (with_reducible refine (bucket_Bucket_Take.calls gb288 t304 t305 t306 t307 t308 t309 t310 t303 true t334 t335 t336 t337 t338 t339 t340 w _ ?side1 ?side2 A62.out).mono ?_); (case side1 => repeat (first | (with_reducible first | exact HI288.out | apply IsS45.alloc | apply IsS45.drewN | apply IsS45.drew | apply IsS45.set_0 | apply IsS45.set_1 | apply IsS45.set_2 | apply IsS45.set_3 | apply IsS45.set_4 | apply IsS45.set_5 | apply IsS45.set_6) | exact HI288.out)); (case side2 => repeat (first | (with_reducible first | exact HB.out | apply below_alloc | apply pw_below_drewN | apply below_drew1 | refine below_set ?_ (IsS45.ge HI288.out)) | exact HB.out)); rintro e w65 ⟨rfl, hi, hb, hk⟩; have n0_ := Aside0.mk (hb); have n1_ := Aside0.mk (hi); clear HB; clear HI288; have HB := n0_; have HI288 := n1_; clear n0_ n1_; (try clear hb); (try clear hb2); (try clear hk); (try clear hi)))
                                              go_roundg k3
                                              case measure => have := HJ5.out; have := HK2.out; have := HK3.out; omega
                                              case rel => exact ⟨(wrap64 (x39_2 + 1)), (by first | rfl | (simp; done) | (simp [*]; done)), H', ⟨by have := HJ5.out; have := HK2.out; have := HK3.out; omega⟩, ⟨by repeat (first | (with_reducible first | exact HB.out | apply below_alloc | apply pw_below_drewN | apply below_drew1 | refine below_set ?_ (IsS45.ge HI288.out)) | exact HB.out)⟩⟩
                                            · replace c63 := Bool.eq_false_iff.mpr c63
                                              subst c63
                                              have H1 : (some false) = some r := by rw [if_neg (show ¬ (false = true) by decide)] at H; exact H
                                              clear H
                                              have H := H1
                                              clear H1
                                              obtain rfl := Option.some.inj H
                                              have p302 : 0 ≤ (x39_2 : Int) := of_decide_eq_true (by first | (with_reducible assumption) | assumption)
                                              have q302 : x39_2 < (l2.length : Int) := of_decide_eq_true (by first | (with_reducible assumption) | assumption)
                                              obtain ⟨ad302, e302, hx302_0⟩ := Kd.at_int HR2.out x39_2 p302 q302
                                              cases e302
                                              replace hx302_0 := (HB.out.cell (World.block_lt_of_cell? w _ hx302_0)).trans hx302_0
                                              replace p302 := eq_true p302
                                              replace q302 := eq_true q302
                                              go_wp2_with (first | ((with_reducible refine gate_callee (f := 12) rfl ?_); refine goesL_ (some 69) rfl rfl Try.func12 (by kernel_rfl) rfl #[.pointer (some ⟨gb288, 0, none⟩), .int .i64 (rd l2 x39_2)] rfl (by (try simp only [List.map_toArray, List.map_cons, List.map_nil]); first | done | rfl | (simp only [List.length_drop, List.length_take]; rfl)) ?_; (with_reducible refine (bucket_Bucket_Next.calls gb288 x289000_3 x289001_3 x289002_3 x289003_3 x289004_3 x289005_3 x289006_3 (rd l2 x39_2) t303 t304 t305 t306 t307 t308 t309 t310 w _ ?side1 ?side2 A34.out).mono ?_); (case side1 => repeat (first | (with_reducible first | exact HI288.out | apply IsS45.alloc | apply IsS45.drewN | apply IsS45.drew | apply IsS45.set_0 | apply IsS45.set_1 | apply IsS45.set_2 | apply IsS45.set_3 | apply IsS45.set_4 | apply IsS45.set_5 | apply IsS45.set_6) | exact HI288.out)); (case side2 => repeat (first | (with_reducible first | exact HB.out | apply below_alloc | apply pw_below_drewN | apply below_drew1 | refine below_set ?_ (IsS45.ge HI288.out)) | exact HB.out)); rintro e w66 ⟨rfl, hi, hb, hk⟩; refine ⟨_, rfl, ?_⟩; have n0_ := Aside0.mk (hb); have n1_ := Aside0.mk (hi); clear HB; clear HI288; have HB := n0_; have HI288 := n1_; clear n0_ n1_; (try clear hb); (try clear hb2); (try clear hk); (try clear hi); have p311 : 0 ≤ (x39_2 : Int) := of_decide_eq_true (by first | (with_reducible assumption) | assumption); have q311 : x39_2 < (l2.length : Int) := of_decide_eq_true (by first | (with_reducible assumption) | assumption); obtain ⟨ad311, e311, hx311_0⟩ := Kd.at_int HR2.out x39_2 p311 q311; obtain rfl : ad302 = ad311 := (by injection e311); replace hx311_0 := (HB.out.cell (World.block_lt_of_cell? w _ hx311_0)).trans hx311_0; replace p311 := eq_true p311; replace q311 := eq_true q311) | ((with_reducible refine gate_callee (f := 19) rfl ?_); refine goesL_ (some 74) rfl rfl Try.func19 (by kernel_rfl) rfl #[.int .i64 (rd l2 x39_2)] rfl (by (try simp only [List.map_toArray, List.map_cons, List.map_nil]); first | done | rfl | (simp only [List.length_drop, List.length_take]; rfl)) ?_; (with_reducible refine (tocsinref14_Far.calls (rd l2 x39_2) false _ A35.out).mono ?_); rintro e w' ⟨rfl, ⟨nd, rfl⟩⟩; refine ⟨_, rfl, ?_⟩; have p313 : 0 ≤ (x39_2 : Int) := of_decide_eq_true (by first | (with_reducible assumption) | assumption); have q313 : x39_2 < (l2.length : Int) := of_decide_eq_true (by first | (with_reducible assumption) | assumption); obtain ⟨ad313, e313, hx313_0⟩ := Kd.at_int HR2.out x39_2 p313 q313; obtain rfl : ad302 = ad313 := (by injection e313); replace hx313_0 := (HB.out.cell (World.block_lt_of_cell? w _ hx313_0)).trans hx313_0; replace p313 := eq_true p313; replace q313 := eq_true q313; have p314 : 0 ≤ (x39_2 : Int) := of_decide_eq_true (by first | (with_reducible assumption) | assumption); have q314 : x39_2 < (l2.length : Int) := of_decide_eq_true (by first | (with_reducible assumption) | assumption); obtain ⟨ad314, e314, hx314_0⟩ := Kd.at_int HR2.out x39_2 p314 q314; obtain rfl : ad302 = ad314 := (by injection e314); replace hx314_0 := (HB.out.cell (World.block_lt_of_cell? w _ hx314_0)).trans hx314_0; replace p314 := eq_true p314; replace q314 := eq_true q314) | (go_at_call 19; (with_reducible refine (tocsinref14_Far.calls t303 false _ A59.out).mono ?_); rintro e w' ⟨rfl, ⟨nd, rfl⟩⟩) | (go_at_call 15; (with_reducible refine (bucket_Bucket_Take.calls gb288 t304 t305 t306 t307 t308 t309 t310 t303 false t334 t335 t336 t337 t338 t339 t340 w _ ?side1 ?side2 A62.out).mono ?_); (case side1 => repeat (first | (with_reducible first | exact HI288.out | apply IsS45.alloc | apply IsS45.drewN | apply IsS45.drew | apply IsS45.set_0 | apply IsS45.set_1 | apply IsS45.set_2 | apply IsS45.set_3 | apply IsS45.set_4 | apply IsS45.set_5 | apply IsS45.set_6) | exact HI288.out)); (case side2 => repeat (first | (with_reducible first | exact HB.out | apply below_alloc | apply pw_below_drewN | apply below_drew1 | refine below_set ?_ (IsS45.ge HI288.out)) | exact HB.out)); rintro e w67 ⟨rfl, hi, hb, hk⟩; have n0_ := Aside0.mk (hb); have n1_ := Aside0.mk (hi); clear HB; clear HI288; have HB := n0_; have HI288 := n1_; clear n0_ n1_; (try clear hb); (try clear hb2); (try clear hk); (try clear hi)))
                                              go_ret
                                              exact ⟨by first | rfl | (simp [errW_none, errW_some] <;> rfl) | (simp only [← hji16]; first | rfl | (simp [errW_none, errW_some] <;> rfl)) | (simp [*, errW_none, errW_some] <;> rfl), by repeat (first | (with_reducible first | exact HB.out | apply below_alloc | apply pw_below_drewN | apply below_drew1 | refine below_set ?_ (IsS45.ge HI288.out)) | exact HB.out)⟩
                                  · rw [if_neg c33] at H
                                    exact absurd H (by simp)
                                · rw [if_neg c32] at H
                                  exact absurd H (by simp)
                        · rw [if_neg c24] at H
                          exact absurd H (by simp)
                      · rw [if_neg c23] at H
                        exact absurd H (by simp)
                    · replace c22 := Bool.eq_false_iff.mpr c22
                      subst c22
                      have H1 : (some true) = some r := by rw [if_neg (show ¬ (false = true) by decide)] at H; exact H
                      clear H
                      have H := H1
                      clear H1
                      obtain rfl := Option.some.inj H
                      go_wp2_with (first | (go_at_call 10; go_in) | ((with_reducible refine gate_callee (f := 20) rfl ?_); refine goesL_ (some 8) rfl rfl Try.func20 (by kernel_rfl) rfl #[.int .i64 a0, .int .i64 a1] rfl (by (try simp only [List.map_toArray, List.map_cons, List.map_nil]); first | done | rfl | (simp only [List.length_drop, List.length_take]; rfl)) ?_; (with_reducible refine (bucket_right.calls a0 a1 false _ A21.out).mono ?_); rintro e w' ⟨rfl, ⟨nd, rfl⟩⟩; refine ⟨_, rfl, ?_⟩))
                      go_ret
                      exact ⟨by first | rfl | (simp [errW_none, errW_some] <;> rfl) | (simp only [← hji16]; first | rfl | (simp [errW_none, errW_some] <;> rfl)) | (simp [*, errW_none, errW_some] <;> rfl), by repeat (first | (with_reducible first | exact HB.out | apply below_alloc | apply pw_below_drewN | apply below_drew1) | exact HB.out)⟩
                  · rw [if_neg c20] at H
                    have c20b0 : decide (x39_2 < (y283.length : Int)) = false := decide_eq_false c20
                    clear c20
                    obtain rfl := Option.some.inj H
                    go_wp2
                    go_ret
                    exact ⟨by first | rfl | (simp [errW_none, errW_some] <;> rfl) | (simp only [← hji16]; first | rfl | (simp [errW_none, errW_some] <;> rfl)) | (simp [*, errW_none, errW_some] <;> rfl), by repeat (first | (with_reducible first | exact HB.out | apply below_alloc | apply pw_below_drewN | apply below_drew1) | exact HB.out)⟩
            · rw [if_neg c18] at H
              exact absurd H (by simp)
          · rw [if_neg c17] at H
            exact absurd H (by simp)
  · replace c5 := Bool.eq_false_iff.mpr c5
    subst c5
    have H1 : (some false) = some r := by rw [if_neg (show ¬ (false = true) by decide)] at H; exact H
    clear H
    have H := H1
    clear H1
    obtain rfl := Option.some.inj H
    go_enter Try.func6, Try.ntmps6
    go_wp2_with (first | ((with_reducible refine gate_callee (f := 9) rfl ?_); refine goesL_ (some 14) rfl rfl Try.func9 (by kernel_rfl) rfl #[] rfl (by (try simp only [List.map_toArray, List.map_cons, List.map_nil]); first | done | rfl | (simp only [List.length_drop, List.length_take]; rfl)) ?_; (with_reducible refine (tocsinlaw14_fixed.calls  false _ A4.out).mono ?_); rintro e w68 ⟨rfl, hb⟩; refine ⟨_, rfl, ?_⟩; have n0_ := Aside0.mk (below_step (by repeat (first | (with_reducible first | exact HB.out | apply below_alloc | apply pw_below_drewN | apply below_drew1) | exact HB.out)) hb); clear HB; have HB := n0_; clear n0_; (try clear hb); (try clear hb2); (try clear hk); (try clear hi)))
    go_ret
    exact ⟨by first | rfl | (simp [errW_none, errW_some] <;> rfl) | (simp [*, errW_none, errW_some] <;> rfl), by repeat (first | (with_reducible first | exact HB.out | apply below_alloc | apply pw_below_drewN | apply below_drew1) | exact HB.out)⟩

/-- THE ONE PURE STATEMENT of tocsinlaw14_BucketNexts: yours. -/
def tocsinlaw14_BucketNexts.Pure : Prop := ∀ (a0 : Int) (a1 : Int) (l2 : List Int), (Lit.int .i64 a0).wf = true → (Lit.int .i64 a1).wf = true → l2.length ≤ maxLen → l2.length * 8 ≤ 140737488351232 → (∀ x ∈ l2, (Lit.int .i64 x).wf = true) → ∃ k, tocsinlaw14_BucketNexts.f k a0 a1 l2 = some true
theorem tocsinlaw14_BucketNexts.walk (P : tocsinlaw14_BucketNexts.Pure) (a0 : Int) (a1 : Int) (a2 : Option Addr) (len2 cap2 : Nat) (z2 : List Int) (w : World) (w0 : (Lit.int .i64 a0).wf = true) (w1 : (Lit.int .i64 a1).wf = true) (w2 : (a2 = none ∧ len2 = 0 ∧ cap2 = 0 ∧ z2 = []) ∨ ∃ x, a2 = some x ∧ len2 ≤ cap2 ∧ cap2 ≤ maxLen ∧ z2.length = cap2 ∧ (∀ i, i < z2.length → w.cell? (x.add i) = some (.int .i64 (z2.getD i 0))) ∧ ∀ n ∈ z2, (Lit.int .i64 n).wf = true) (y2 : len2 * 8 ≤ 140737488351232) :
    Calls Try.prog 6 #[.int .i64 a0, .int .i64 a1, .slice a2 len2 cap2] w fun e w' => e = .returned (.bool true) ∧ Below w.heap.size w w' := by
  obtain ⟨l2, rfl, hr2, hm2, hw2, hc2⟩ := ReadsInt.ofRowC w2
  obtain ⟨k, h⟩ := P a0 a1 l2 w0 w1 hm2 y2 hw2
  refine (tocsinlaw14_BucketNexts.calls k a0 a1 _ _ l2 true w (Kd.C_of_reads (d := (0 : Int)) (h1 := fun _ => rfl) hr2) hc2 h).mono ?_
  rintro e w' ⟨rfl, hd⟩
  exact ⟨rfl, hd⟩

/-! ### tocsinlaw14_BucketBudgets: function 7 -/
def tocsinlaw14_BucketBudgets.f (a0 : Int) (a1 : Int) (a2 : Int) : Option (Bool) := (tocsinlaw14_fixed.f).bind fun t341 => (if t341 = true then ((bucket_Budget.f a0 a1 a2).bind fun t342 => ((tocsinref14_Right.f a0 a1).bind fun t343 => (if t343 = true then (if a2 < 0 then (some (t342 == 0)) else (if a2 > 2251799813685248 then (some (t342 == 0)) else (if t342 ≥ 1 then (if (wrap64 ((wrap64 (t342 - 1)) * a0)) ≤ (wrap64 (a2 + a1)) then (some (decide ((wrap64 (t342 * a0)) > (wrap64 (a2 + a1))))) else (some false)) else (some false)))) else (some (t342 == 0))))) else (some false))
set_option maxHeartbeats 8000000 in
set_option maxRecDepth 100000 in
theorem tocsinlaw14_BucketBudgets.calls (a0 : Int) (a1 : Int) (a2 : Int) (r : Bool) (w : World) (h : tocsinlaw14_BucketBudgets.f a0 a1 a2 = some r) :
    Calls Try.prog 7 #[.int .i64 a0, .int .i64 a1, .int .i64 a2] w fun e w' => e = .returned (.bool r) ∧ Below w.heap.size w w' := by
  have HB := Aside0.mk (Below.refl w.heap.size w)
  have H : ((tocsinlaw14_fixed.f).bind fun t341 => (if t341 = true then ((bucket_Budget.f a0 a1 a2).bind fun t342 => ((tocsinref14_Right.f a0 a1).bind fun t343 => (if t343 = true then (if a2 < 0 then (some (t342 == 0)) else (if a2 > 2251799813685248 then (some (t342 == 0)) else (if t342 ≥ 1 then (if (wrap64 ((wrap64 (t342 - 1)) * a0)) ≤ (wrap64 (a2 + a1)) then (some (decide ((wrap64 (t342 * a0)) > (wrap64 (a2 + a1))))) else (some false)) else (some false)))) else (some (t342 == 0))))) else (some false))) = some r := h
  clear h
  replace H := Option.bind_eq_some_iff.mp H
  obtain ⟨t341, A40, H⟩ := H
  replace H : (if t341 = true then ((bucket_Budget.f a0 a1 a2).bind fun t342 => ((tocsinref14_Right.f a0 a1).bind fun t343 => (if t343 = true then (if a2 < 0 then (some (t342 == 0)) else (if a2 > 2251799813685248 then (some (t342 == 0)) else (if t342 ≥ 1 then (if (wrap64 ((wrap64 (t342 - 1)) * a0)) ≤ (wrap64 (a2 + a1)) then (some (decide ((wrap64 (t342 * a0)) > (wrap64 (a2 + a1))))) else (some false)) else (some false)))) else (some (t342 == 0))))) else (some false)) = some r := H
  have A4 := Aside0.mk A40
  clear A40
  by_cases c5 : t341 = true
  · subst c5
    have H1 : ((bucket_Budget.f a0 a1 a2).bind fun t342 => ((tocsinref14_Right.f a0 a1).bind fun t343 => (if t343 = true then (if a2 < 0 then (some (t342 == 0)) else (if a2 > 2251799813685248 then (some (t342 == 0)) else (if t342 ≥ 1 then (if (wrap64 ((wrap64 (t342 - 1)) * a0)) ≤ (wrap64 (a2 + a1)) then (some (decide ((wrap64 (t342 * a0)) > (wrap64 (a2 + a1))))) else (some false)) else (some false)))) else (some (t342 == 0))))) = some r := by rw [if_pos rfl] at H; exact H
    clear H
    have H := H1
    clear H1
    replace H := Option.bind_eq_some_iff.mp H
    obtain ⟨t342, A60, H⟩ := H
    replace H : ((tocsinref14_Right.f a0 a1).bind fun t343 => (if t343 = true then (if a2 < 0 then (some (t342 == 0)) else (if a2 > 2251799813685248 then (some (t342 == 0)) else (if t342 ≥ 1 then (if (wrap64 ((wrap64 (t342 - 1)) * a0)) ≤ (wrap64 (a2 + a1)) then (some (decide ((wrap64 (t342 * a0)) > (wrap64 (a2 + a1))))) else (some false)) else (some false)))) else (some (t342 == 0)))) = some r := H
    have A6 := Aside0.mk A60
    clear A60
    replace H := Option.bind_eq_some_iff.mp H
    obtain ⟨t343, A70, H⟩ := H
    replace H : (if t343 = true then (if a2 < 0 then (some (t342 == 0)) else (if a2 > 2251799813685248 then (some (t342 == 0)) else (if t342 ≥ 1 then (if (wrap64 ((wrap64 (t342 - 1)) * a0)) ≤ (wrap64 (a2 + a1)) then (some (decide ((wrap64 (t342 * a0)) > (wrap64 (a2 + a1))))) else (some false)) else (some false)))) else (some (t342 == 0))) = some r := H
    have A7 := Aside0.mk A70
    clear A70
    by_cases c8 : t343 = true
    · subst c8
      have H1 : (if a2 < 0 then (some (t342 == 0)) else (if a2 > 2251799813685248 then (some (t342 == 0)) else (if t342 ≥ 1 then (if (wrap64 ((wrap64 (t342 - 1)) * a0)) ≤ (wrap64 (a2 + a1)) then (some (decide ((wrap64 (t342 * a0)) > (wrap64 (a2 + a1))))) else (some false)) else (some false)))) = some r := by rw [if_pos rfl] at H; exact H
      clear H
      have H := H1
      clear H1
      by_cases c9 : a2 < 0
      · rw [if_pos c9] at H
        have c9b0 : decide (a2 < 0) = true := decide_eq_true c9
        clear c9
        obtain rfl := Option.some.inj H
        go_enter Try.func7, Try.ntmps7
        go_wp2_with (first | ((with_reducible refine gate_callee (f := 9) rfl ?_); refine goesL_ (some 8) rfl rfl Try.func9 (by kernel_rfl) rfl #[] rfl (by (try simp only [List.map_toArray, List.map_cons, List.map_nil]); first | done | rfl | (simp only [List.length_drop, List.length_take]; rfl)) ?_; (with_reducible refine (tocsinlaw14_fixed.calls  true _ A4.out).mono ?_); rintro e w10 ⟨rfl, hb⟩; refine ⟨_, rfl, ?_⟩; have n0_ := Aside0.mk (below_step (by repeat (first | (with_reducible first | exact HB.out | apply below_alloc | apply pw_below_drewN | apply below_drew1) | exact HB.out)) hb); clear HB; have HB := n0_; clear n0_; (try clear hb); (try clear hb2); (try clear hk); (try clear hi)) | ((with_reducible refine gate_callee (f := 18) rfl ?_); refine goesL_ (some 13) rfl rfl Try.func18 (by kernel_rfl) rfl #[.int .i64 a0, .int .i64 a1, .int .i64 a2] rfl (by (try simp only [List.map_toArray, List.map_cons, List.map_nil]); first | done | rfl | (simp only [List.length_drop, List.length_take]; rfl)) ?_; (with_reducible refine (bucket_Budget.calls a0 a1 a2 t342 _ A6.out).mono ?_); rintro e w' ⟨rfl, ⟨nd, rfl⟩⟩; refine ⟨_, rfl, ?_⟩) | ((with_reducible refine gate_callee (f := 11) rfl ?_); refine goesL_ (some 16) rfl rfl Try.func11 (by kernel_rfl) rfl #[.int .i64 a0, .int .i64 a1] rfl (by (try simp only [List.map_toArray, List.map_cons, List.map_nil]); first | done | rfl | (simp only [List.length_drop, List.length_take]; rfl)) ?_; (with_reducible refine (tocsinref14_Right.calls a0 a1 true _ A7.out).mono ?_); rintro e w' ⟨rfl, ⟨nd, rfl⟩⟩; refine ⟨_, rfl, ?_⟩))
        go_ret
        exact ⟨by first | rfl | (simp [errW_none, errW_some] <;> rfl) | (simp [*, errW_none, errW_some] <;> rfl), by repeat (first | (with_reducible first | exact HB.out | apply below_alloc | apply pw_below_drewN | apply below_drew1) | exact HB.out)⟩
      · rw [if_neg c9] at H
        have c9b0 : decide (a2 < 0) = false := decide_eq_false c9
        clear c9
        by_cases c11 : a2 > 2251799813685248
        · rw [if_pos c11] at H
          have c11b0 : decide (2251799813685248 < a2) = true := decide_eq_true c11
          clear c11
          obtain rfl := Option.some.inj H
          go_enter Try.func7, Try.ntmps7
          go_wp2_with (first | ((with_reducible refine gate_callee (f := 9) rfl ?_); refine goesL_ (some 8) rfl rfl Try.func9 (by kernel_rfl) rfl #[] rfl (by (try simp only [List.map_toArray, List.map_cons, List.map_nil]); first | done | rfl | (simp only [List.length_drop, List.length_take]; rfl)) ?_; (with_reducible refine (tocsinlaw14_fixed.calls  true _ A4.out).mono ?_); rintro e w12 ⟨rfl, hb⟩; refine ⟨_, rfl, ?_⟩; have n0_ := Aside0.mk (below_step (by repeat (first | (with_reducible first | exact HB.out | apply below_alloc | apply pw_below_drewN | apply below_drew1) | exact HB.out)) hb); clear HB; have HB := n0_; clear n0_; (try clear hb); (try clear hb2); (try clear hk); (try clear hi)) | ((with_reducible refine gate_callee (f := 18) rfl ?_); refine goesL_ (some 13) rfl rfl Try.func18 (by kernel_rfl) rfl #[.int .i64 a0, .int .i64 a1, .int .i64 a2] rfl (by (try simp only [List.map_toArray, List.map_cons, List.map_nil]); first | done | rfl | (simp only [List.length_drop, List.length_take]; rfl)) ?_; (with_reducible refine (bucket_Budget.calls a0 a1 a2 t342 _ A6.out).mono ?_); rintro e w' ⟨rfl, ⟨nd, rfl⟩⟩; refine ⟨_, rfl, ?_⟩) | ((with_reducible refine gate_callee (f := 11) rfl ?_); refine goesL_ (some 16) rfl rfl Try.func11 (by kernel_rfl) rfl #[.int .i64 a0, .int .i64 a1] rfl (by (try simp only [List.map_toArray, List.map_cons, List.map_nil]); first | done | rfl | (simp only [List.length_drop, List.length_take]; rfl)) ?_; (with_reducible refine (tocsinref14_Right.calls a0 a1 true _ A7.out).mono ?_); rintro e w' ⟨rfl, ⟨nd, rfl⟩⟩; refine ⟨_, rfl, ?_⟩))
          go_ret
          exact ⟨by first | rfl | (simp [errW_none, errW_some] <;> rfl) | (simp [*, errW_none, errW_some] <;> rfl), by repeat (first | (with_reducible first | exact HB.out | apply below_alloc | apply pw_below_drewN | apply below_drew1) | exact HB.out)⟩
        · rw [if_neg c11] at H
          have c11b0 : decide (2251799813685248 < a2) = false := decide_eq_false c11
          clear c11
          by_cases c13 : t342 ≥ 1
          · rw [if_pos c13] at H
            have c13b0 : decide (1 ≤ t342) = true := decide_eq_true c13
            clear c13
            by_cases c14 : (wrap64 ((wrap64 (t342 - 1)) * a0)) ≤ (wrap64 (a2 + a1))
            · rw [if_pos c14] at H
              have c14b0 : decide ((wrap64 ((wrap64 (t342 - 1)) * a0)) ≤ (wrap64 (a2 + a1))) = true := decide_eq_true c14
              clear c14
              obtain rfl := Option.some.inj H
              go_enter Try.func7, Try.ntmps7
              go_wp2_with (first | ((with_reducible refine gate_callee (f := 9) rfl ?_); refine goesL_ (some 8) rfl rfl Try.func9 (by kernel_rfl) rfl #[] rfl (by (try simp only [List.map_toArray, List.map_cons, List.map_nil]); first | done | rfl | (simp only [List.length_drop, List.length_take]; rfl)) ?_; (with_reducible refine (tocsinlaw14_fixed.calls  true _ A4.out).mono ?_); rintro e w15 ⟨rfl, hb⟩; refine ⟨_, rfl, ?_⟩; have n0_ := Aside0.mk (below_step (by repeat (first | (with_reducible first | exact HB.out | apply below_alloc | apply pw_below_drewN | apply below_drew1) | exact HB.out)) hb); clear HB; have HB := n0_; clear n0_; (try clear hb); (try clear hb2); (try clear hk); (try clear hi)) | ((with_reducible refine gate_callee (f := 18) rfl ?_); refine goesL_ (some 13) rfl rfl Try.func18 (by kernel_rfl) rfl #[.int .i64 a0, .int .i64 a1, .int .i64 a2] rfl (by (try simp only [List.map_toArray, List.map_cons, List.map_nil]); first | done | rfl | (simp only [List.length_drop, List.length_take]; rfl)) ?_; (with_reducible refine (bucket_Budget.calls a0 a1 a2 t342 _ A6.out).mono ?_); rintro e w' ⟨rfl, ⟨nd, rfl⟩⟩; refine ⟨_, rfl, ?_⟩) | ((with_reducible refine gate_callee (f := 11) rfl ?_); refine goesL_ (some 16) rfl rfl Try.func11 (by kernel_rfl) rfl #[.int .i64 a0, .int .i64 a1] rfl (by (try simp only [List.map_toArray, List.map_cons, List.map_nil]); first | done | rfl | (simp only [List.length_drop, List.length_take]; rfl)) ?_; (with_reducible refine (tocsinref14_Right.calls a0 a1 true _ A7.out).mono ?_); rintro e w' ⟨rfl, ⟨nd, rfl⟩⟩; refine ⟨_, rfl, ?_⟩))
              go_ret
              exact ⟨by first | rfl | (simp [errW_none, errW_some] <;> rfl) | (simp [*, errW_none, errW_some] <;> rfl), by repeat (first | (with_reducible first | exact HB.out | apply below_alloc | apply pw_below_drewN | apply below_drew1) | exact HB.out)⟩
            · rw [if_neg c14] at H
              have c14b0 : decide ((wrap64 ((wrap64 (t342 - 1)) * a0)) ≤ (wrap64 (a2 + a1))) = false := decide_eq_false c14
              clear c14
              obtain rfl := Option.some.inj H
              go_enter Try.func7, Try.ntmps7
              go_wp2_with (first | ((with_reducible refine gate_callee (f := 9) rfl ?_); refine goesL_ (some 8) rfl rfl Try.func9 (by kernel_rfl) rfl #[] rfl (by (try simp only [List.map_toArray, List.map_cons, List.map_nil]); first | done | rfl | (simp only [List.length_drop, List.length_take]; rfl)) ?_; (with_reducible refine (tocsinlaw14_fixed.calls  true _ A4.out).mono ?_); rintro e w16 ⟨rfl, hb⟩; refine ⟨_, rfl, ?_⟩; have n0_ := Aside0.mk (below_step (by repeat (first | (with_reducible first | exact HB.out | apply below_alloc | apply pw_below_drewN | apply below_drew1) | exact HB.out)) hb); clear HB; have HB := n0_; clear n0_; (try clear hb); (try clear hb2); (try clear hk); (try clear hi)) | ((with_reducible refine gate_callee (f := 18) rfl ?_); refine goesL_ (some 13) rfl rfl Try.func18 (by kernel_rfl) rfl #[.int .i64 a0, .int .i64 a1, .int .i64 a2] rfl (by (try simp only [List.map_toArray, List.map_cons, List.map_nil]); first | done | rfl | (simp only [List.length_drop, List.length_take]; rfl)) ?_; (with_reducible refine (bucket_Budget.calls a0 a1 a2 t342 _ A6.out).mono ?_); rintro e w' ⟨rfl, ⟨nd, rfl⟩⟩; refine ⟨_, rfl, ?_⟩) | ((with_reducible refine gate_callee (f := 11) rfl ?_); refine goesL_ (some 16) rfl rfl Try.func11 (by kernel_rfl) rfl #[.int .i64 a0, .int .i64 a1] rfl (by (try simp only [List.map_toArray, List.map_cons, List.map_nil]); first | done | rfl | (simp only [List.length_drop, List.length_take]; rfl)) ?_; (with_reducible refine (tocsinref14_Right.calls a0 a1 true _ A7.out).mono ?_); rintro e w' ⟨rfl, ⟨nd, rfl⟩⟩; refine ⟨_, rfl, ?_⟩))
              go_ret
              exact ⟨by first | rfl | (simp [errW_none, errW_some] <;> rfl) | (simp [*, errW_none, errW_some] <;> rfl), by repeat (first | (with_reducible first | exact HB.out | apply below_alloc | apply pw_below_drewN | apply below_drew1) | exact HB.out)⟩
          · rw [if_neg c13] at H
            have c13b0 : decide (1 ≤ t342) = false := decide_eq_false c13
            clear c13
            obtain rfl := Option.some.inj H
            go_enter Try.func7, Try.ntmps7
            go_wp2_with (first | ((with_reducible refine gate_callee (f := 9) rfl ?_); refine goesL_ (some 8) rfl rfl Try.func9 (by kernel_rfl) rfl #[] rfl (by (try simp only [List.map_toArray, List.map_cons, List.map_nil]); first | done | rfl | (simp only [List.length_drop, List.length_take]; rfl)) ?_; (with_reducible refine (tocsinlaw14_fixed.calls  true _ A4.out).mono ?_); rintro e w17 ⟨rfl, hb⟩; refine ⟨_, rfl, ?_⟩; have n0_ := Aside0.mk (below_step (by repeat (first | (with_reducible first | exact HB.out | apply below_alloc | apply pw_below_drewN | apply below_drew1) | exact HB.out)) hb); clear HB; have HB := n0_; clear n0_; (try clear hb); (try clear hb2); (try clear hk); (try clear hi)) | ((with_reducible refine gate_callee (f := 18) rfl ?_); refine goesL_ (some 13) rfl rfl Try.func18 (by kernel_rfl) rfl #[.int .i64 a0, .int .i64 a1, .int .i64 a2] rfl (by (try simp only [List.map_toArray, List.map_cons, List.map_nil]); first | done | rfl | (simp only [List.length_drop, List.length_take]; rfl)) ?_; (with_reducible refine (bucket_Budget.calls a0 a1 a2 t342 _ A6.out).mono ?_); rintro e w' ⟨rfl, ⟨nd, rfl⟩⟩; refine ⟨_, rfl, ?_⟩) | ((with_reducible refine gate_callee (f := 11) rfl ?_); refine goesL_ (some 16) rfl rfl Try.func11 (by kernel_rfl) rfl #[.int .i64 a0, .int .i64 a1] rfl (by (try simp only [List.map_toArray, List.map_cons, List.map_nil]); first | done | rfl | (simp only [List.length_drop, List.length_take]; rfl)) ?_; (with_reducible refine (tocsinref14_Right.calls a0 a1 true _ A7.out).mono ?_); rintro e w' ⟨rfl, ⟨nd, rfl⟩⟩; refine ⟨_, rfl, ?_⟩))
            go_ret
            exact ⟨by first | rfl | (simp [errW_none, errW_some] <;> rfl) | (simp [*, errW_none, errW_some] <;> rfl), by repeat (first | (with_reducible first | exact HB.out | apply below_alloc | apply pw_below_drewN | apply below_drew1) | exact HB.out)⟩
    · replace c8 := Bool.eq_false_iff.mpr c8
      subst c8
      have H1 : (some (t342 == 0)) = some r := by rw [if_neg (show ¬ (false = true) by decide)] at H; exact H
      clear H
      have H := H1
      clear H1
      obtain rfl := Option.some.inj H
      go_enter Try.func7, Try.ntmps7
      go_wp2_with (first | ((with_reducible refine gate_callee (f := 9) rfl ?_); refine goesL_ (some 8) rfl rfl Try.func9 (by kernel_rfl) rfl #[] rfl (by (try simp only [List.map_toArray, List.map_cons, List.map_nil]); first | done | rfl | (simp only [List.length_drop, List.length_take]; rfl)) ?_; (with_reducible refine (tocsinlaw14_fixed.calls  true _ A4.out).mono ?_); rintro e w18 ⟨rfl, hb⟩; refine ⟨_, rfl, ?_⟩; have n0_ := Aside0.mk (below_step (by repeat (first | (with_reducible first | exact HB.out | apply below_alloc | apply pw_below_drewN | apply below_drew1) | exact HB.out)) hb); clear HB; have HB := n0_; clear n0_; (try clear hb); (try clear hb2); (try clear hk); (try clear hi)) | ((with_reducible refine gate_callee (f := 18) rfl ?_); refine goesL_ (some 13) rfl rfl Try.func18 (by kernel_rfl) rfl #[.int .i64 a0, .int .i64 a1, .int .i64 a2] rfl (by (try simp only [List.map_toArray, List.map_cons, List.map_nil]); first | done | rfl | (simp only [List.length_drop, List.length_take]; rfl)) ?_; (with_reducible refine (bucket_Budget.calls a0 a1 a2 t342 _ A6.out).mono ?_); rintro e w' ⟨rfl, ⟨nd, rfl⟩⟩; refine ⟨_, rfl, ?_⟩) | ((with_reducible refine gate_callee (f := 11) rfl ?_); refine goesL_ (some 16) rfl rfl Try.func11 (by kernel_rfl) rfl #[.int .i64 a0, .int .i64 a1] rfl (by (try simp only [List.map_toArray, List.map_cons, List.map_nil]); first | done | rfl | (simp only [List.length_drop, List.length_take]; rfl)) ?_; (with_reducible refine (tocsinref14_Right.calls a0 a1 false _ A7.out).mono ?_); rintro e w' ⟨rfl, ⟨nd, rfl⟩⟩; refine ⟨_, rfl, ?_⟩))
      go_ret
      exact ⟨by first | rfl | (simp [errW_none, errW_some] <;> rfl) | (simp [*, errW_none, errW_some] <;> rfl), by repeat (first | (with_reducible first | exact HB.out | apply below_alloc | apply pw_below_drewN | apply below_drew1) | exact HB.out)⟩
  · replace c5 := Bool.eq_false_iff.mpr c5
    subst c5
    have H1 : (some false) = some r := by rw [if_neg (show ¬ (false = true) by decide)] at H; exact H
    clear H
    have H := H1
    clear H1
    obtain rfl := Option.some.inj H
    go_enter Try.func7, Try.ntmps7
    go_wp2_with (first | ((with_reducible refine gate_callee (f := 9) rfl ?_); refine goesL_ (some 8) rfl rfl Try.func9 (by kernel_rfl) rfl #[] rfl (by (try simp only [List.map_toArray, List.map_cons, List.map_nil]); first | done | rfl | (simp only [List.length_drop, List.length_take]; rfl)) ?_; (with_reducible refine (tocsinlaw14_fixed.calls  false _ A4.out).mono ?_); rintro e w19 ⟨rfl, hb⟩; refine ⟨_, rfl, ?_⟩; have n0_ := Aside0.mk (below_step (by repeat (first | (with_reducible first | exact HB.out | apply below_alloc | apply pw_below_drewN | apply below_drew1) | exact HB.out)) hb); clear HB; have HB := n0_; clear n0_; (try clear hb); (try clear hb2); (try clear hk); (try clear hi)))
    go_ret
    exact ⟨by first | rfl | (simp [errW_none, errW_some] <;> rfl) | (simp [*, errW_none, errW_some] <;> rfl), by repeat (first | (with_reducible first | exact HB.out | apply below_alloc | apply pw_below_drewN | apply below_drew1) | exact HB.out)⟩

/-- THE ONE PURE STATEMENT of tocsinlaw14_BucketBudgets: yours. -/
def tocsinlaw14_BucketBudgets.Pure : Prop := ∀ (a0 : Int) (a1 : Int) (a2 : Int), (Lit.int .i64 a0).wf = true → (Lit.int .i64 a1).wf = true → (Lit.int .i64 a2).wf = true → tocsinlaw14_BucketBudgets.f a0 a1 a2 = some true
theorem tocsinlaw14_BucketBudgets.walk (P : tocsinlaw14_BucketBudgets.Pure) (a0 : Int) (a1 : Int) (a2 : Int) (w : World) (w0 : (Lit.int .i64 a0).wf = true) (w1 : (Lit.int .i64 a1).wf = true) (w2 : (Lit.int .i64 a2).wf = true) :
    Calls Try.prog 7 #[.int .i64 a0, .int .i64 a1, .int .i64 a2] w fun e w' => e = .returned (.bool true) ∧ Below w.heap.size w w' := by
  have h := P a0 a1 a2 w0 w1 w2
  refine (tocsinlaw14_BucketBudgets.calls a0 a1 a2 true w h).mono ?_
  rintro e w' ⟨rfl, hd⟩
  exact ⟨rfl, hd⟩

end Go.Proofs.Ytpddklcfkjebgaa.PB
