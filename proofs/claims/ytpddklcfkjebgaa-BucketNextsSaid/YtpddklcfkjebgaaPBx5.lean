-- Written by a program for this claim.
import Derived.Test.YtpddklcfkjebgaaPBx0
import Derived.Test.YtpddklcfkjebgaaPBx1
namespace Go.Proofs.Ytpddklcfkjebgaa.PB
open Go.RowKit Go.Proofs.YtpddklcfkjebgaaW.PrintWords Go.Proofs.YtpddklcfkjebgaaW.PrintLast Go.Proofs.YtpddklcfkjebgaaW.PrintMore
attribute [local go_sem] max2_int min2_int max_two min_two max_three min_three max_four min_four   -- for this text's walks alone
set_option linter.unusedVariables false
set_option linter.unusedSimpArgs false

/-! ### tocsinlaw14_BucketBudget: function 4 -/
mutual
def tocsinlaw14_BucketBudget.l0 : Nat → Int → Int → List Int → List Int → Int → Int → Int → Int → Bool → Int → Int → Int → Int → Option (Bool)
  | 0, _, _, _, _, _, _, _, _, _, _, _, _, _ => none
  | k + 1, x0, x1, x9, x31, x32, x33, x231000, x231001, x231002, x231003, x231004, x231005, x231006 => if x33 < x32 then (if 0 ≤ x33 then (if x33 < (x31.length : Int) then ((bucket_Bucket_Take.f x231000 x231001 x231002 x231003 x231004 x231005 x231006 (rd x31 x33)).bind fun bt236 => (if bt236.1 = true then (if x9.length < 17592186044416 then (tocsinlaw14_BucketBudget.l0 k x0 x1 (x9 ++ [rd x31 x33]) x31 x32 (wrap64 (x33 + 1)) bt236.2.1 bt236.2.2.1 bt236.2.2.2.1 bt236.2.2.2.2.1 bt236.2.2.2.2.2.1 bt236.2.2.2.2.2.2.1 bt236.2.2.2.2.2.2.2) else (none)) else (tocsinlaw14_BucketBudget.l0 k x0 x1 x9 x31 x32 (wrap64 (x33 + 1)) bt236.2.1 bt236.2.2.1 bt236.2.2.2.1 bt236.2.2.2.2.1 bt236.2.2.2.2.2.1 bt236.2.2.2.2.2.2.1 bt236.2.2.2.2.2.2.2))) else (none)) else (none)) else (tocsinlaw14_BucketBudget.l1 k x0 x1 x9 (x9.length : Int) 0)
def tocsinlaw14_BucketBudget.l1 : Nat → Int → Int → List Int → Int → Int → Option (Bool)
  | 0, _, _, _, _, _ => none
  | k + 1, x0, x1, x9, x46, x47 => if x47 < x46 then (tocsinlaw14_BucketBudget.l2 k x0 x1 x9 x47 x47 x46 x47) else (some true)
def tocsinlaw14_BucketBudget.l2 : Nat → Int → Int → List Int → Int → Int → Int → Int → Option (Bool)
  | 0, _, _, _, _, _, _, _ => none
  | k + 1, x0, x1, x9, x12, x13, x46, x47 => if x13 < (x9.length : Int) then (if 0 ≤ x13 then (if 0 ≤ x12 then (if x12 < (x9.length : Int) then ((bucket_Budget.f x0 x1 (wrap64 ((rd x9 x13) - (rd x9 x12)))).bind fun t249 => (if (wrap64 ((wrap64 (x13 - x12)) + 1)) > t249 then (some false) else (tocsinlaw14_BucketBudget.l2 k x0 x1 x9 x12 (wrap64 (x13 + 1)) x46 x47))) else (none)) else (none)) else (none)) else (tocsinlaw14_BucketBudget.l1 k x0 x1 x9 x46 (wrap64 (x47 + 1)))
end
def tocsinlaw14_BucketBudget.f (k : Nat) (a0 : Int) (a1 : Int) (l2 : List Int) : Option (Bool) := (tocsinlaw14_fixed.f).bind fun t228 => (if t228 = true then ((bucket_right.f a0 a1).bind fun t229 => (if t229 = true then (if 0 ≤ (mn (l2.length : Int) 500) then (if (mn (l2.length : Int) 500) ≤ (l2.length : Int) then ((some (l2.take ((mn (l2.length : Int) 500) : Int).toNat : List Int)).bind fun y231 => (tocsinlaw14_BucketBudget.l0 k a0 a1 ([] : List Int) y231 (y231.length : Int) 0 a0 a1 false 0 0 0 0)) else (none)) else (none)) else (some true))) else (some false))
theorem tocsinlaw14_BucketBudget.mono_l : ∀ k, (∀ y0 y1 y2 y3 y4 y5 y6 y7 y8 y9 y10 y11 y12, LeO (tocsinlaw14_BucketBudget.l0 k y0 y1 y2 y3 y4 y5 y6 y7 y8 y9 y10 y11 y12) (tocsinlaw14_BucketBudget.l0 (k + 1) y0 y1 y2 y3 y4 y5 y6 y7 y8 y9 y10 y11 y12)) ∧ (∀ y0 y1 y2 y3 y4, LeO (tocsinlaw14_BucketBudget.l1 k y0 y1 y2 y3 y4) (tocsinlaw14_BucketBudget.l1 (k + 1) y0 y1 y2 y3 y4)) ∧ (∀ y0 y1 y2 y3 y4 y5 y6, LeO (tocsinlaw14_BucketBudget.l2 k y0 y1 y2 y3 y4 y5 y6) (tocsinlaw14_BucketBudget.l2 (k + 1) y0 y1 y2 y3 y4 y5 y6))
  | 0 => ⟨fun _ _ _ _ _ _ _ _ _ _ _ _ _ r h => by simp [tocsinlaw14_BucketBudget.l0] at h, fun _ _ _ _ _ r h => by simp [tocsinlaw14_BucketBudget.l1] at h, fun _ _ _ _ _ _ _ r h => by simp [tocsinlaw14_BucketBudget.l2] at h⟩
  | k + 1 => by
    obtain ⟨ih0, ih1, ih2⟩ := tocsinlaw14_BucketBudget.mono_l k
    refine ⟨?_, ?_, ?_⟩
    · intro y0 y1 y2 y3 y4 y5 y6 y7 y8 y9 y10 y11 y12
      unfold tocsinlaw14_BucketBudget.l0
      repeat' first
      | (with_reducible exact ih0 _ _ _ _ _ _ _ _ _ _ _ _ _)
      | (with_reducible exact ih1 _ _ _ _ _)
      | (with_reducible exact ih2 _ _ _ _ _ _ _)
      | (with_reducible exact LeO.refl _)
      | (with_reducible exact LeO.none _)
      | (with_reducible refine LeO.ite ?_ ?_)
      | (with_reducible refine LeO.bind ?_ (fun _ => ?_))
      | exact ih0 _ _ _ _ _ _ _ _ _ _ _ _ _
      | exact ih1 _ _ _ _ _
      | exact ih2 _ _ _ _ _ _ _
      | exact LeO.none _
      | refine LeO.ite ?_ ?_
      | refine LeO.bind ?_ (fun _ => ?_)
    · intro y0 y1 y2 y3 y4
      unfold tocsinlaw14_BucketBudget.l1
      repeat' first
      | (with_reducible exact ih0 _ _ _ _ _ _ _ _ _ _ _ _ _)
      | (with_reducible exact ih1 _ _ _ _ _)
      | (with_reducible exact ih2 _ _ _ _ _ _ _)
      | (with_reducible exact LeO.refl _)
      | (with_reducible exact LeO.none _)
      | (with_reducible refine LeO.ite ?_ ?_)
      | (with_reducible refine LeO.bind ?_ (fun _ => ?_))
      | exact ih0 _ _ _ _ _ _ _ _ _ _ _ _ _
      | exact ih1 _ _ _ _ _
      | exact ih2 _ _ _ _ _ _ _
      | exact LeO.none _
      | refine LeO.ite ?_ ?_
      | refine LeO.bind ?_ (fun _ => ?_)
    · intro y0 y1 y2 y3 y4 y5 y6
      unfold tocsinlaw14_BucketBudget.l2
      repeat' first
      | (with_reducible exact ih0 _ _ _ _ _ _ _ _ _ _ _ _ _)
      | (with_reducible exact ih1 _ _ _ _ _)
      | (with_reducible exact ih2 _ _ _ _ _ _ _)
      | (with_reducible exact LeO.refl _)
      | (with_reducible exact LeO.none _)
      | (with_reducible refine LeO.ite ?_ ?_)
      | (with_reducible refine LeO.bind ?_ (fun _ => ?_))
      | exact ih0 _ _ _ _ _ _ _ _ _ _ _ _ _
      | exact ih1 _ _ _ _ _
      | exact ih2 _ _ _ _ _ _ _
      | exact LeO.none _
      | refine LeO.ite ?_ ?_
      | refine LeO.bind ?_ (fun _ => ?_)
theorem tocsinlaw14_BucketBudget.mono : ∀ a0 a1 a2 k, LeO (tocsinlaw14_BucketBudget.f k a0 a1 a2) (tocsinlaw14_BucketBudget.f (k + 1) a0 a1 a2) := by
  intro a0 a1 a2 k
  obtain ⟨ih0, ih1, ih2⟩ := tocsinlaw14_BucketBudget.mono_l k
  unfold tocsinlaw14_BucketBudget.f
  repeat' first
      | (with_reducible exact ih0 _ _ _ _ _ _ _ _ _ _ _ _ _)
      | (with_reducible exact ih1 _ _ _ _ _)
      | (with_reducible exact ih2 _ _ _ _ _ _ _)
      | (with_reducible exact LeO.refl _)
      | (with_reducible exact LeO.none _)
      | (with_reducible refine LeO.ite ?_ ?_)
      | (with_reducible refine LeO.bind ?_ (fun _ => ?_))
      | exact ih0 _ _ _ _ _ _ _ _ _ _ _ _ _
      | exact ih1 _ _ _ _ _
      | exact ih2 _ _ _ _ _ _ _
      | exact LeO.none _
      | refine LeO.ite ?_ ?_
      | refine LeO.bind ?_ (fun _ => ?_)
set_option maxHeartbeats 8000000 in
set_option maxRecDepth 100000 in
theorem tocsinlaw14_BucketBudget.calls (k : Nat) (a0 : Int) (a1 : Int) (A2 : Option Addr) (c2 : Nat) (l2 : List Int) (r : Bool) (w : World) (hr2 : Kd.C (Kd.int .i64) w A2 l2.length l2) (hc2 : l2.length ≤ c2) (h : tocsinlaw14_BucketBudget.f k a0 a1 l2 = some r) :
    Calls Try.prog 4 #[.int .i64 a0, .int .i64 a1, .slice A2 l2.length c2] w fun e w' => e = .returned (.bool r) ∧ Below w.heap.size w w' := by
  have HR2 := Aside0.mk hr2
  have HC2 := Aside0.mk hc2
  clear hr2 hc2
  have HB := Aside0.mk (Below.refl w.heap.size w)
  have H : ((tocsinlaw14_fixed.f).bind fun t228 => (if t228 = true then ((bucket_right.f a0 a1).bind fun t229 => (if t229 = true then (if 0 ≤ (mn (l2.length : Int) 500) then (if (mn (l2.length : Int) 500) ≤ (l2.length : Int) then ((some (l2.take ((mn (l2.length : Int) 500) : Int).toNat : List Int)).bind fun y231 => (tocsinlaw14_BucketBudget.l0 k a0 a1 ([] : List Int) y231 (y231.length : Int) 0 a0 a1 false 0 0 0 0)) else (none)) else (none)) else (some true))) else (some false))) = some r := h
  clear h
  replace H := Option.bind_eq_some_iff.mp H
  obtain ⟨t228, A40, H⟩ := H
  replace H : (if t228 = true then ((bucket_right.f a0 a1).bind fun t229 => (if t229 = true then (if 0 ≤ (mn (l2.length : Int) 500) then (if (mn (l2.length : Int) 500) ≤ (l2.length : Int) then ((some (l2.take ((mn (l2.length : Int) 500) : Int).toNat : List Int)).bind fun y231 => (tocsinlaw14_BucketBudget.l0 k a0 a1 ([] : List Int) y231 (y231.length : Int) 0 a0 a1 false 0 0 0 0)) else (none)) else (none)) else (some true))) else (some false)) = some r := H
  have A4 := Aside0.mk A40
  clear A40
  by_cases c5 : t228 = true
  · subst c5
    have H1 : ((bucket_right.f a0 a1).bind fun t229 => (if t229 = true then (if 0 ≤ (mn (l2.length : Int) 500) then (if (mn (l2.length : Int) 500) ≤ (l2.length : Int) then ((some (l2.take ((mn (l2.length : Int) 500) : Int).toNat : List Int)).bind fun y231 => (tocsinlaw14_BucketBudget.l0 k a0 a1 ([] : List Int) y231 (y231.length : Int) 0 a0 a1 false 0 0 0 0)) else (none)) else (none)) else (some true))) = some r := by rw [if_pos rfl] at H; exact H
    clear H
    have H := H1
    clear H1
    replace H := Option.bind_eq_some_iff.mp H
    obtain ⟨t229, A60, H⟩ := H
    replace H : (if t229 = true then (if 0 ≤ (mn (l2.length : Int) 500) then (if (mn (l2.length : Int) 500) ≤ (l2.length : Int) then ((some (l2.take ((mn (l2.length : Int) 500) : Int).toNat : List Int)).bind fun y231 => (tocsinlaw14_BucketBudget.l0 k a0 a1 ([] : List Int) y231 (y231.length : Int) 0 a0 a1 false 0 0 0 0)) else (none)) else (none)) else (some true)) = some r := H
    have A6 := Aside0.mk A60
    clear A60
    by_cases c7 : t229 = true
    · subst c7
      have H1 : (if 0 ≤ (mn (l2.length : Int) 500) then (if (mn (l2.length : Int) 500) ≤ (l2.length : Int) then ((some (l2.take ((mn (l2.length : Int) 500) : Int).toNat : List Int)).bind fun y231 => (tocsinlaw14_BucketBudget.l0 k a0 a1 ([] : List Int) y231 (y231.length : Int) 0 a0 a1 false 0 0 0 0)) else (none)) else (none)) = some r := by rw [if_pos rfl] at H; exact H
      clear H
      have H := H1
      clear H1
      obtain ⟨ji8, hji8⟩ : ∃ j_ : Int, (mn (l2.length : Int) 500) = j_ := ⟨_, rfl⟩
      replace H : (if 0 ≤ (ji8) then (if (ji8) ≤ (l2.length : Int) then ((some (l2.take ((ji8) : Int).toNat : List Int)).bind fun y231 => (tocsinlaw14_BucketBudget.l0 k a0 a1 ([] : List Int) y231 (y231.length : Int) 0 a0 a1 false 0 0 0 0)) else (none)) else (none)) = some r := by first | (rw [hji8] at H; exact H) | (simp only [hji8] at H ⊢; exact H)
      (try rw [hji8] at A4)
      (try rw [hji8] at A6)
      have hji8_ : (if 500 < (l2.length : Int) then 500 else (l2.length : Int)) = ji8 := hji8
      by_cases c9 : 0 ≤ (ji8)
      · rw [if_pos c9] at H
        have c9b0 := eq_true c9
        have c9b1 : decide (0 ≤ (ji8)) = true := decide_eq_true c9
        clear c9
        by_cases c10 : (ji8) ≤ (l2.length : Int)
        · rw [if_pos c10] at H
          have c10b0 := eq_true c10
          have c10b1 : decide ((ji8) ≤ (l2.length : Int)) = true := decide_eq_true c10
          clear c10
          obtain ⟨y231, hy231⟩ : ∃ y_ : List Int, y_ = (l2.take ((ji8) : Int).toNat) := ⟨_, rfl⟩
          replace H : (tocsinlaw14_BucketBudget.l0 k a0 a1 ([] : List Int) y231 (y231.length : Int) 0 a0 a1 false 0 0 0 0) = some r := by first | (rw [hy231]; with_reducible exact H) | (have H2_ := (Option.bind_some _ _).symm.trans H; rw [hy231]; with_reducible exact H2_) | (have H2_ := (Option.bind_some _ _).symm.trans H; with_reducible exact H2_) | with_reducible exact H | (rw [hy231]; exact H) | exact H
          have Ny231 := Aside0.mk hy231
          clear hy231
          have H' := Aside0.mk H
          clear H
          go_enter Try.func4, Try.ntmps4
          go_wp2_with (first | (go_at_call 9; (with_reducible refine (tocsinlaw14_fixed.calls  true _ A4.out).mono ?_); rintro e w11 ⟨rfl, hb⟩; have n0_ := Aside0.mk (below_step (by repeat (first | (with_reducible first | exact HB.out | apply below_alloc | apply pw_below_drewN | apply below_drew1) | exact HB.out)) hb); clear HB; have HB := n0_; clear n0_; (try clear hb); (try clear hb2); (try clear hk); (try clear hi)) | (go_at_call 10; go_in) | (go_at_call 20; (with_reducible refine (bucket_right.calls a0 a1 true _ A6.out).mono ?_); rintro e w' ⟨rfl, ⟨nd, rfl⟩⟩; (try first | exact ⟨rfl, _, World.drewN_drewN _ _ _⟩ | exact ⟨rfl, _, Eq.trans (World.drewN_drewN _ _ _) (congrArg (World.drewN _) (Nat.add_assoc _ _ _))⟩)) | ((with_reducible refine gate_dst (N := 13) rfl ?_); refine box_event ?hg (N := 13) ?hd (cs := #[.int .i64 a0, .int .i64 a1, .bool false, .int .i64 0, .int .i64 0, .int .i64 0, .int .i64 0]) (t := 45) ?hr ?_; (case hd => rfl); (case hg => rfl); (case hr => first | (go_simp; done) | (go_simp; rfl)); intro gb230 hg w12 hbox hb; have n0_ := Aside0.mk (below_step (by repeat (first | (with_reducible first | exact HB.out | apply below_alloc | apply pw_below_drewN | apply below_drew1) | exact HB.out)) hb); have n1_ := Aside0.mk (hbox); have n2_ := Aside0.mk ((by rw [hg]; exact (below_size (by repeat (first | (with_reducible first | exact HB.out | apply below_alloc | apply pw_below_drewN | apply below_drew1) | exact HB.out))) : w.heap.size ≤ gb230)); have n3_ := Aside0.mk ((by rw [hg]; exact (below_size (by repeat (first | (with_reducible first | exact HB.out | apply below_alloc | apply pw_below_drewN | apply below_drew1) | exact HB.out))) : w.heap.size ≤ gb230)); clear HB; have HB := n0_; have BK230 := n1_; have GW230 := n2_; have GE230 := n3_; clear n0_ n1_ n2_ n3_; clear hb hbox hg; have HI230 := Aside0.mk (show IsS45 w w12 gb230 a0 a1 false 0 0 0 0 from ⟨BK230.out, GE230.out⟩); clear BK230; have q13 : ((ji8) : Int) ≤ ((l2.length : Int) : Int) := of_decide_eq_true (by first | (with_reducible assumption) | assumption); obtain ⟨i013, hi013, _, hsz13, _⟩ := info_parts info2; have hroom13 : l2.length ≤ c2 := HC2.out; have hC13 : Kd.C (Kd.int .i64) _ A2 l2.length l2 := HR2.out; have hcut13 := cut_to (P := Try.prog) 22 2 .i64 Try.underlying22 hi013 A2 l2.length c2 (ji8) (of_decide_eq_true (by first | (with_reducible assumption) | assumption)) q13 hroom13; have hr13 := Kd.C_take (m := ((ji8) : Int).toNat) hC13 (by omega); have hy13 : y231.length = ((ji8) : Int).toNat := (by rw [Ny231.out, List.length_take]; omega); rw [← Ny231.out] at hr13; rw [← hy13] at hcut13; have HR234 := Aside0.mk hr13; have HC234 := Aside0.mk (show y231.length ≤ c2 from by omega); clear hr13 hC13 hroom13 hi013 hsz13; have KY13 := Aside0.mk hy13; clear hy13; replace q13 := eq_true q13))
          repeat (go_quiet (first | (go_at_call 9; (with_reducible refine (tocsinlaw14_fixed.calls  true _ A4.out).mono ?_); rintro e w11 ⟨rfl, hb⟩; have n0_ := Aside0.mk (below_step (by repeat (first | (with_reducible first | exact HB.out | apply below_alloc | apply pw_below_drewN | apply below_drew1) | exact HB.out)) hb); clear HB; have HB := n0_; clear n0_; (try clear hb); (try clear hb2); (try clear hk); (try clear hi)) | (go_at_call 10; go_in) | (go_at_call 20; (with_reducible refine (bucket_right.calls a0 a1 true _ A6.out).mono ?_); rintro e w' ⟨rfl, ⟨nd, rfl⟩⟩; (try first | exact ⟨rfl, _, World.drewN_drewN _ _ _⟩ | exact ⟨rfl, _, Eq.trans (World.drewN_drewN _ _ _) (congrArg (World.drewN _) (Nat.add_assoc _ _ _))⟩)) | ((with_reducible refine gate_dst (N := 13) rfl ?_); refine box_event ?hg (N := 13) ?hd (cs := #[.int .i64 a0, .int .i64 a1, .bool false, .int .i64 0, .int .i64 0, .int .i64 0, .int .i64 0]) (t := 45) ?hr ?_; (case hd => rfl); (case hg => rfl); (case hr => first | (go_simp; done) | (go_simp; rfl)); intro gb230 hg w12 hbox hb; have n0_ := Aside0.mk (below_step (by repeat (first | (with_reducible first | exact HB.out | apply below_alloc | apply pw_below_drewN | apply below_drew1) | exact HB.out)) hb); have n1_ := Aside0.mk (hbox); have n2_ := Aside0.mk ((by rw [hg]; exact (below_size (by repeat (first | (with_reducible first | exact HB.out | apply below_alloc | apply pw_below_drewN | apply below_drew1) | exact HB.out))) : w.heap.size ≤ gb230)); have n3_ := Aside0.mk ((by rw [hg]; exact (below_size (by repeat (first | (with_reducible first | exact HB.out | apply below_alloc | apply pw_below_drewN | apply below_drew1) | exact HB.out))) : w.heap.size ≤ gb230)); clear HB; have HB := n0_; have BK230 := n1_; have GW230 := n2_; have GE230 := n3_; clear n0_ n1_ n2_ n3_; clear hb hbox hg; have HI230 := Aside0.mk (show IsS45 w w12 gb230 a0 a1 false 0 0 0 0 from ⟨BK230.out, GE230.out⟩); clear BK230; have q13 : ((ji8) : Int) ≤ ((l2.length : Int) : Int) := of_decide_eq_true (by first | (with_reducible assumption) | assumption); obtain ⟨i013, hi013, _, hsz13, _⟩ := info_parts info2; have hroom13 : l2.length ≤ c2 := HC2.out; have hC13 : Kd.C (Kd.int .i64) _ A2 l2.length l2 := HR2.out; have hcut13 := cut_to (P := Try.prog) 22 2 .i64 Try.underlying22 hi013 A2 l2.length c2 (ji8) (of_decide_eq_true (by first | (with_reducible assumption) | assumption)) q13 hroom13; have hr13 := Kd.C_take (m := ((ji8) : Int).toNat) hC13 (by omega); have hy13 : y231.length = ((ji8) : Int).toNat := (by rw [Ny231.out, List.length_take]; omega); rw [← Ny231.out] at hr13; rw [← hy13] at hcut13; have HR234 := Aside0.mk hr13; have HC234 := Aside0.mk (show y231.length ≤ c2 from by omega); clear hr13 hC13 hroom13 hi013 hsz13; have KY13 := Aside0.mk hy13; clear hy13; replace q13 := eq_true q13)); try go_wp2_with (first | (go_at_call 9; (with_reducible refine (tocsinlaw14_fixed.calls  true _ A4.out).mono ?_); rintro e w11 ⟨rfl, hb⟩; have n0_ := Aside0.mk (below_step (by repeat (first | (with_reducible first | exact HB.out | apply below_alloc | apply pw_below_drewN | apply below_drew1) | exact HB.out)) hb); clear HB; have HB := n0_; clear n0_; (try clear hb); (try clear hb2); (try clear hk); (try clear hi)) | (go_at_call 10; go_in) | (go_at_call 20; (with_reducible refine (bucket_right.calls a0 a1 true _ A6.out).mono ?_); rintro e w' ⟨rfl, ⟨nd, rfl⟩⟩; (try first | exact ⟨rfl, _, World.drewN_drewN _ _ _⟩ | exact ⟨rfl, _, Eq.trans (World.drewN_drewN _ _ _) (congrArg (World.drewN _) (Nat.add_assoc _ _ _))⟩)) | ((with_reducible refine gate_dst (N := 13) rfl ?_); refine box_event ?hg (N := 13) ?hd (cs := #[.int .i64 a0, .int .i64 a1, .bool false, .int .i64 0, .int .i64 0, .int .i64 0, .int .i64 0]) (t := 45) ?hr ?_; (case hd => rfl); (case hg => rfl); (case hr => first | (go_simp; done) | (go_simp; rfl)); intro gb230 hg w12 hbox hb; have n0_ := Aside0.mk (below_step (by repeat (first | (with_reducible first | exact HB.out | apply below_alloc | apply pw_below_drewN | apply below_drew1) | exact HB.out)) hb); have n1_ := Aside0.mk (hbox); have n2_ := Aside0.mk ((by rw [hg]; exact (below_size (by repeat (first | (with_reducible first | exact HB.out | apply below_alloc | apply pw_below_drewN | apply below_drew1) | exact HB.out))) : w.heap.size ≤ gb230)); have n3_ := Aside0.mk ((by rw [hg]; exact (below_size (by repeat (first | (with_reducible first | exact HB.out | apply below_alloc | apply pw_below_drewN | apply below_drew1) | exact HB.out))) : w.heap.size ≤ gb230)); clear HB; have HB := n0_; have BK230 := n1_; have GW230 := n2_; have GE230 := n3_; clear n0_ n1_ n2_ n3_; clear hb hbox hg; have HI230 := Aside0.mk (show IsS45 w w12 gb230 a0 a1 false 0 0 0 0 from ⟨BK230.out, GE230.out⟩); clear BK230; have q13 : ((ji8) : Int) ≤ ((l2.length : Int) : Int) := of_decide_eq_true (by first | (with_reducible assumption) | assumption); obtain ⟨i013, hi013, _, hsz13, _⟩ := info_parts info2; have hroom13 : l2.length ≤ c2 := HC2.out; have hC13 : Kd.C (Kd.int .i64) _ A2 l2.length l2 := HR2.out; have hcut13 := cut_to (P := Try.prog) 22 2 .i64 Try.underlying22 hi013 A2 l2.length c2 (ji8) (of_decide_eq_true (by first | (with_reducible assumption) | assumption)) q13 hroom13; have hr13 := Kd.C_take (m := ((ji8) : Int).toNat) hC13 (by omega); have hy13 : y231.length = ((ji8) : Int).toNat := (by rw [Ny231.out, List.length_take]; omega); rw [← Ny231.out] at hr13; rw [← hy13] at hcut13; have HR234 := Aside0.mk hr13; have HC234 := Aside0.mk (show y231.length ≤ c2 from by omega); clear hr13 hC13 hroom13 hi013 hsz13; have KY13 := Aside0.mk hy13; clear hy13; replace q13 := eq_true q13)))
          go_loopg [9, 33] k (fun kq v9 v33 w' => ∃ (x9_1 : List Int) (x33_1 : Int) (x231000_1 : Int) (x231001_1 : Int) (x231002_1 : Bool) (x231003_1 : Int) (x231004_1 : Int) (x231005_1 : Int) (x231006_1 : Int), v33 = .int .i64 x33_1 ∧ Aside0 (tocsinlaw14_BucketBudget.l0 kq a0 a1 x9_1 y231 (y231.length : Int) x33_1 x231000_1 x231001_1 x231002_1 x231003_1 x231004_1 x231005_1 x231006_1 = some r) ∧ Aside0 (kq ≤ k) ∧ Aside0 (Kd.R (Kd.int .i64) 2 w' w.heap.size (fun _ => True) v9 x9_1) ∧ Aside0 (IsS45 w w' gb230 x231000_1 x231001_1 x231002_1 x231003_1 x231004_1 x231005_1 x231006_1) ∧ Aside0 (Below w.heap.size w w'))
          case atStart => exact ⟨(([] : List Int)), (0), (a0), (a1), (false), (0), (0), (0), (0), (by first | rfl | (simp; done) | (simp [*]; done)), H', ⟨Nat.le_refl _⟩, ⟨by first | exact Kd.R_nil _ _ _ _ _ | exact Kd.N_nil _ _ _ _ _ | exact Kd.V_nil _ _ _ _ _ | exact Kd.Q_nil _ _ _ _ _ | exact Kd.S_nil _ _ _ _ _⟩, ⟨by repeat (first | (with_reducible first | exact HI230.out | apply IsS45.alloc | apply IsS45.drewN | apply IsS45.drew | apply IsS45.set_0 | apply IsS45.set_1 | apply IsS45.set_2 | apply IsS45.set_3 | apply IsS45.set_4 | apply IsS45.set_5 | apply IsS45.set_6) | exact HI230.out)⟩, ⟨by repeat (first | (with_reducible first | exact HB.out | apply below_alloc | apply pw_below_drewN | apply below_drew1 | refine below_set ?_ (IsS45.ge HI230.out)) | exact HB.out)⟩⟩
          case round =>
            clear H'
            try clear c1
            try clear q1
            try clear c2
            try clear p2
            try clear c4
            try clear c5
            try clear c7
            try clear c9
            try clear c9b0
            try clear c9b1
            try clear c10
            try clear c10b0
            try clear c10b1
            try clear q13
            try clear q13
            obtain ⟨x9_1, x33_1, x231000_1, x231001_1, x231002_1, x231003_1, x231004_1, x231005_1, x231006_1, rfl, HA, HK1, HO_9, HI230, HB⟩ := hrel
            cases gk with
            | zero => exact absurd HA.out (by simp [tocsinlaw14_BucketBudget.l0])
            | succ k1 =>
              have H := HA.out
              clear HA
              simp only [tocsinlaw14_BucketBudget.l0] at H
              by_cases c14 : x33_1 < (y231.length : Int)
              · rw [if_pos c14] at H
                have c14b0 : decide (x33_1 < (y231.length : Int)) = true := decide_eq_true c14
                clear c14
                by_cases c15 : 0 ≤ x33_1
                · rw [if_pos c15] at H
                  have c15b0 : decide (0 ≤ x33_1) = true := decide_eq_true c15
                  clear c15
                  by_cases c16 : x33_1 < (y231.length : Int)
                  · rw [if_pos c16] at H
                    have c16b0 : decide (x33_1 < (y231.length : Int)) = true := decide_eq_true c16
                    clear c16
                    replace H := Option.bind_eq_some_iff.mp H
                    obtain ⟨⟨t236, t237, t238, t239, t240, t241, t242, t243⟩, A170, H⟩ := H
                    replace H : (if t236 = true then (if x9_1.length < 17592186044416 then (tocsinlaw14_BucketBudget.l0 k1 a0 a1 (x9_1 ++ [rd y231 x33_1]) y231 (y231.length : Int) (wrap64 (x33_1 + 1)) t237 t238 t239 t240 t241 t242 t243) else (none)) else (tocsinlaw14_BucketBudget.l0 k1 a0 a1 x9_1 y231 (y231.length : Int) (wrap64 (x33_1 + 1)) t237 t238 t239 t240 t241 t242 t243)) = some r := H
                    have A17 := Aside0.mk A170
                    clear A170
                    by_cases c18 : t236 = true
                    · subst c18
                      have H1 : (if x9_1.length < 17592186044416 then (tocsinlaw14_BucketBudget.l0 k1 a0 a1 (x9_1 ++ [rd y231 x33_1]) y231 (y231.length : Int) (wrap64 (x33_1 + 1)) t237 t238 t239 t240 t241 t242 t243) else (none)) = some r := by rw [if_pos rfl] at H; exact H
                      clear H
                      have H := H1
                      clear H1
                      by_cases c19 : x9_1.length < 17592186044416
                      · rw [if_pos c19] at H
                        have LMc19 := Aside0.mk c19
                        clear c19
                        obtain ⟨y244, hy244⟩ : ∃ y_ : List Int, y_ = (x9_1 ++ [rd y231 x33_1]) := ⟨_, rfl⟩
                        replace H : (tocsinlaw14_BucketBudget.l0 k1 a0 a1 y244 y231 (y231.length : Int) (wrap64 (x33_1 + 1)) t237 t238 t239 t240 t241 t242 t243) = some r := by first | (rw [hy244]; with_reducible exact H) | (have H2_ := (Option.bind_some _ _).symm.trans H; rw [hy244]; with_reducible exact H2_) | (have H2_ := (Option.bind_some _ _).symm.trans H; with_reducible exact H2_) | with_reducible exact H | (rw [hy244]; exact H) | exact H
                        have Ny244 := Aside0.mk hy244
                        clear hy244
                        have H' := Aside0.mk H
                        clear H
                        have p235 : 0 ≤ (x33_1 : Int) := of_decide_eq_true (by first | (with_reducible assumption) | assumption)
                        have q235 : x33_1 < (y231.length : Int) := of_decide_eq_true (by first | (with_reducible assumption) | assumption)
                        obtain ⟨ad235, e235, hx235_0⟩ := Kd.at_int HR234.out x33_1 p235 q235
                        cases e235
                        replace hx235_0 := (HB.out.cell (World.block_lt_of_cell? w _ hx235_0)).trans hx235_0
                        replace p235 := eq_true p235
                        replace q235 := eq_true q235
                        go_wp2_with (first | (go_at_call 15; (with_reducible refine (bucket_Bucket_Take.calls gb230 x231000_1 x231001_1 x231002_1 x231003_1 x231004_1 x231005_1 x231006_1 (rd y231 x33_1) true t237 t238 t239 t240 t241 t242 t243 w _ ?side1 ?side2 A17.out).mono ?_); (case side1 => repeat (first | (with_reducible first | exact HI230.out | apply IsS45.alloc | apply IsS45.drewN | apply IsS45.drew | apply IsS45.set_0 | apply IsS45.set_1 | apply IsS45.set_2 | apply IsS45.set_3 | apply IsS45.set_4 | apply IsS45.set_5 | apply IsS45.set_6) | exact HI230.out)); (case side2 => repeat (first | (with_reducible first | exact HB.out | apply below_alloc | apply pw_below_drewN | apply below_drew1 | refine below_set ?_ (IsS45.ge HI230.out)) | exact HB.out)); rintro e w20 ⟨rfl, hi, hb, hk⟩; have n0_ := Aside0.mk (Kd.R_mono (Kd.R_keep (IsS45.apart (show IsS45 w _ gb230 x231000_1 x231001_1 x231002_1 x231003_1 x231004_1 x231005_1 x231006_1 from by repeat (first | (with_reducible first | exact HI230.out | apply IsS45.alloc | apply IsS45.drewN | apply IsS45.drew | apply IsS45.set_0 | apply IsS45.set_1 | apply IsS45.set_2 | apply IsS45.set_3 | apply IsS45.set_4 | apply IsS45.set_5 | apply IsS45.set_6) | exact HI230.out)) (by (with_reducible repeat (first | apply Kd.R_alloc | apply Kd.R_drewN | apply Kd.R_drew)); exact HO_9.out) (by decide)) hk (fun _ h => h.2)) (fun _ h => h.1)); have n1_ := Aside0.mk (hb); have n2_ := Aside0.mk (hi); clear HO_9; clear HB; clear HI230; have HO_9 := n0_; have HB := n1_; have HI230 := n2_; clear n0_ n1_ n2_; (try clear hb); (try clear hb2); (try clear hk); (try clear hi)) | ((with_reducible refine gate_builtin (b := .append) (xs := #[.tmp 40, .tmp 42]) rfl ?_); at_builtin; refine Kd.R_append (Kd.int .i64) (w0 := w) w.heap.size rfl (.tmp 40) (.tmp 42) 22 2 (.int .i64 0) 8 rfl Try.underlying22 info2 rfl (by decide) (by omega) u9 x9_1 (rd y231 x33_1) [.int .i64 (rd y231 x33_1)] (fun _ => True) (fun _ => False) rfl rfl ?aP (fun _ hk => hk.elim) ?aF ?aO ?aB ?aS ?aL ?_; (case aP => exact rfl); (case aB => exact (by repeat (first | (with_reducible first | exact HB.out | apply below_alloc | apply pw_below_drewN | apply below_drew1 | refine below_set ?_ (IsS45.ge HI230.out)) | exact HB.out))); (case aF => exact (fun _ _ => trivial)); (case aO => exact (by (with_reducible repeat (first | apply Kd.R_alloc | apply Kd.R_drewN | apply Kd.R_drew)); exact HO_9.out)); (case aS => exact (below_size (by repeat (first | (with_reducible first | exact HB.out | apply below_alloc | apply pw_below_drewN | apply below_drew1 | refine below_set ?_ (IsS45.ge HI230.out)) | exact HB.out)))); (case aL => have := LMc19.out; omega); intro v245 w21 ho hb hg hat; rw [← Ny244.out] at ho; have n0_ := Aside0.mk (IsS45.grown (by repeat (first | (with_reducible first | exact HI230.out | apply IsS45.alloc | apply IsS45.drewN | apply IsS45.drew | apply IsS45.set_0 | apply IsS45.set_1 | apply IsS45.set_2 | apply IsS45.set_3 | apply IsS45.set_4 | apply IsS45.set_5 | apply IsS45.set_6) | exact HI230.out)) hg (IsS45.own_ne HI230.out HO_9.out (by decide))); have n1_ := Aside0.mk (hb); have n2_ := Aside0.mk (ho); clear HI230; clear HB; clear HO_9; have HI230 := n0_; have HB := n1_; have HO246 := n2_; clear n0_ n1_ n2_; clear ho hb hg hat))
                        repeat (go_quiet (first | (go_at_call 15; (with_reducible refine (bucket_Bucket_Take.calls gb230 x231000_1 x231001_1 x231002_1 x231003_1 x231004_1 x231005_1 x231006_1 (rd y231 x33_1) true t237 t238 t239 t240 t241 t242 t243 w _ ?side1 ?side2 A17.out).mono ?_); (case side1 => repeat (first | (with_reducible first | exact HI230.out | apply IsS45.alloc | apply IsS45.drewN | apply IsS45.drew | apply IsS45.set_0 | apply IsS45.set_1 | apply IsS45.set_2 | apply IsS45.set_3 | apply IsS45.set_4 | apply IsS45.set_5 | apply IsS45.set_6) | exact HI230.out)); (case side2 => repeat (first | (with_reducible first | exact HB.out | apply below_alloc | apply pw_below_drewN | apply below_drew1 | refine below_set ?_ (IsS45.ge HI230.out)) | exact HB.out)); rintro e w20 ⟨rfl, hi, hb, hk⟩; have n0_ := Aside0.mk (Kd.R_mono (Kd.R_keep (IsS45.apart (show IsS45 w _ gb230 x231000_1 x231001_1 x231002_1 x231003_1 x231004_1 x231005_1 x231006_1 from by repeat (first | (with_reducible first | exact HI230.out | apply IsS45.alloc | apply IsS45.drewN | apply IsS45.drew | apply IsS45.set_0 | apply IsS45.set_1 | apply IsS45.set_2 | apply IsS45.set_3 | apply IsS45.set_4 | apply IsS45.set_5 | apply IsS45.set_6) | exact HI230.out)) (by (with_reducible repeat (first | apply Kd.R_alloc | apply Kd.R_drewN | apply Kd.R_drew)); exact HO_9.out) (by decide)) hk (fun _ h => h.2)) (fun _ h => h.1)); have n1_ := Aside0.mk (hb); have n2_ := Aside0.mk (hi); clear HO_9; clear HB; clear HI230; have HO_9 := n0_; have HB := n1_; have HI230 := n2_; clear n0_ n1_ n2_; (try clear hb); (try clear hb2); (try clear hk); (try clear hi)) | ((with_reducible refine gate_builtin (b := .append) (xs := #[.tmp 40, .tmp 42]) rfl ?_); at_builtin; refine Kd.R_append (Kd.int .i64) (w0 := w) w.heap.size rfl (.tmp 40) (.tmp 42) 22 2 (.int .i64 0) 8 rfl Try.underlying22 info2 rfl (by decide) (by omega) u9 x9_1 (rd y231 x33_1) [.int .i64 (rd y231 x33_1)] (fun _ => True) (fun _ => False) rfl rfl ?aP (fun _ hk => hk.elim) ?aF ?aO ?aB ?aS ?aL ?_; (case aP => exact rfl); (case aB => exact (by repeat (first | (with_reducible first | exact HB.out | apply below_alloc | apply pw_below_drewN | apply below_drew1 | refine below_set ?_ (IsS45.ge HI230.out)) | exact HB.out))); (case aF => exact (fun _ _ => trivial)); (case aO => exact (by (with_reducible repeat (first | apply Kd.R_alloc | apply Kd.R_drewN | apply Kd.R_drew)); exact HO_9.out)); (case aS => exact (below_size (by repeat (first | (with_reducible first | exact HB.out | apply below_alloc | apply pw_below_drewN | apply below_drew1 | refine below_set ?_ (IsS45.ge HI230.out)) | exact HB.out)))); (case aL => have := LMc19.out; omega); intro v245 w21 ho hb hg hat; rw [← Ny244.out] at ho; have n0_ := Aside0.mk (IsS45.grown (by repeat (first | (with_reducible first | exact HI230.out | apply IsS45.alloc | apply IsS45.drewN | apply IsS45.drew | apply IsS45.set_0 | apply IsS45.set_1 | apply IsS45.set_2 | apply IsS45.set_3 | apply IsS45.set_4 | apply IsS45.set_5 | apply IsS45.set_6) | exact HI230.out)) hg (IsS45.own_ne HI230.out HO_9.out (by decide))); have n1_ := Aside0.mk (hb); have n2_ := Aside0.mk (ho); clear HI230; clear HB; clear HO_9; have HI230 := n0_; have HB := n1_; have HO246 := n2_; clear n0_ n1_ n2_; clear ho hb hg hat)); try go_wp2_with (first | (go_at_call 15; (with_reducible refine (bucket_Bucket_Take.calls gb230 x231000_1 x231001_1 x231002_1 x231003_1 x231004_1 x231005_1 x231006_1 (rd y231 x33_1) true t237 t238 t239 t240 t241 t242 t243 w _ ?side1 ?side2 A17.out).mono ?_); (case side1 => repeat (first | (with_reducible first | exact HI230.out | apply IsS45.alloc | apply IsS45.drewN | apply IsS45.drew | apply IsS45.set_0 | apply IsS45.set_1 | apply IsS45.set_2 | apply IsS45.set_3 | apply IsS45.set_4 | apply IsS45.set_5 | apply IsS45.set_6) | exact HI230.out)); (case side2 => repeat (first | (with_reducible first | exact HB.out | apply below_alloc | apply pw_below_drewN | apply below_drew1 | refine below_set ?_ (IsS45.ge HI230.out)) | exact HB.out)); rintro e w20 ⟨rfl, hi, hb, hk⟩; have n0_ := Aside0.mk (Kd.R_mono (Kd.R_keep (IsS45.apart (show IsS45 w _ gb230 x231000_1 x231001_1 x231002_1 x231003_1 x231004_1 x231005_1 x231006_1 from by repeat (first | (with_reducible first | exact HI230.out | apply IsS45.alloc | apply IsS45.drewN | apply IsS45.drew | apply IsS45.set_0 | apply IsS45.set_1 | apply IsS45.set_2 | apply IsS45.set_3 | apply IsS45.set_4 | apply IsS45.set_5 | apply IsS45.set_6) | exact HI230.out)) (by (with_reducible repeat (first | apply Kd.R_alloc | apply Kd.R_drewN | apply Kd.R_drew)); exact HO_9.out) (by decide)) hk (fun _ h => h.2)) (fun _ h => h.1)); have n1_ := Aside0.mk (hb); have n2_ := Aside0.mk (hi); clear HO_9; clear HB; clear HI230; have HO_9 := n0_; have HB := n1_; have HI230 := n2_; clear n0_ n1_ n2_; (try clear hb); (try clear hb2); (try clear hk); (try clear hi)) | ((with_reducible refine gate_builtin (b := .append) (xs := #[.tmp 40, .tmp 42]) rfl ?_); at_builtin; refine Kd.R_append (Kd.int .i64) (w0 := w) w.heap.size rfl (.tmp 40) (.tmp 42) 22 2 (.int .i64 0) 8 rfl Try.underlying22 info2 rfl (by decide) (by omega) u9 x9_1 (rd y231 x33_1) [.int .i64 (rd y231 x33_1)] (fun _ => True) (fun _ => False) rfl rfl ?aP (fun _ hk => hk.elim) ?aF ?aO ?aB ?aS ?aL ?_; (case aP => exact rfl); (case aB => exact (by repeat (first | (with_reducible first | exact HB.out | apply below_alloc | apply pw_below_drewN | apply below_drew1 | refine below_set ?_ (IsS45.ge HI230.out)) | exact HB.out))); (case aF => exact (fun _ _ => trivial)); (case aO => exact (by (with_reducible repeat (first | apply Kd.R_alloc | apply Kd.R_drewN | apply Kd.R_drew)); exact HO_9.out)); (case aS => exact (below_size (by repeat (first | (with_reducible first | exact HB.out | apply below_alloc | apply pw_below_drewN | apply below_drew1 | refine below_set ?_ (IsS45.ge HI230.out)) | exact HB.out)))); (case aL => have := LMc19.out; omega); intro v245 w21 ho hb hg hat; rw [← Ny244.out] at ho; have n0_ := Aside0.mk (IsS45.grown (by repeat (first | (with_reducible first | exact HI230.out | apply IsS45.alloc | apply IsS45.drewN | apply IsS45.drew | apply IsS45.set_0 | apply IsS45.set_1 | apply IsS45.set_2 | apply IsS45.set_3 | apply IsS45.set_4 | apply IsS45.set_5 | apply IsS45.set_6) | exact HI230.out)) hg (IsS45.own_ne HI230.out HO_9.out (by decide))); have n1_ := Aside0.mk (hb); have n2_ := Aside0.mk (ho); clear HI230; clear HB; clear HO_9; have HI230 := n0_; have HB := n1_; have HO246 := n2_; clear n0_ n1_ n2_; clear ho hb hg hat)))
                        go_roundg k1
                        case measure => have := HK1.out; omega
                        case rel => exact ⟨(y244), (wrap64 (x33_1 + 1)), (t237), (t238), (t239), (t240), (t241), (t242), (t243), (by first | rfl | (simp; done) | (simp [*]; done)), H', ⟨by have := HK1.out; omega⟩, ⟨by (with_reducible repeat (first | apply Kd.R_alloc | apply Kd.R_drewN | apply Kd.R_drew)); exact HO246.out⟩, ⟨by repeat (first | (with_reducible first | exact HI230.out | apply IsS45.alloc | apply IsS45.drewN | apply IsS45.drew | apply IsS45.set_0 | apply IsS45.set_1 | apply IsS45.set_2 | apply IsS45.set_3 | apply IsS45.set_4 | apply IsS45.set_5 | apply IsS45.set_6) | exact HI230.out)⟩, ⟨by repeat (first | (with_reducible first | exact HB.out | apply below_alloc | apply pw_below_drewN | apply below_drew1 | refine below_set ?_ (IsS45.ge HI230.out)) | exact HB.out)⟩⟩
                      · rw [if_neg c19] at H
                        exact absurd H (by simp)
                    · replace c18 := Bool.eq_false_iff.mpr c18
                      subst c18
                      have H1 : (tocsinlaw14_BucketBudget.l0 k1 a0 a1 x9_1 y231 (y231.length : Int) (wrap64 (x33_1 + 1)) t237 t238 t239 t240 t241 t242 t243) = some r := by rw [if_neg (show ¬ (false = true) by decide)] at H; exact H
                      clear H
                      have H := H1
                      clear H1
                      have H' := Aside0.mk H
                      clear H
                      have p235 : 0 ≤ (x33_1 : Int) := of_decide_eq_true (by first | (with_reducible assumption) | assumption)
                      have q235 : x33_1 < (y231.length : Int) := of_decide_eq_true (by first | (with_reducible assumption) | assumption)
                      obtain ⟨ad235, e235, hx235_0⟩ := Kd.at_int HR234.out x33_1 p235 q235
                      cases e235
                      replace hx235_0 := (HB.out.cell (World.block_lt_of_cell? w _ hx235_0)).trans hx235_0
                      replace p235 := eq_true p235
                      replace q235 := eq_true q235
                      go_wp2_with (first | (go_at_call 15; (with_reducible refine (bucket_Bucket_Take.calls gb230 x231000_1 x231001_1 x231002_1 x231003_1 x231004_1 x231005_1 x231006_1 (rd y231 x33_1) false t237 t238 t239 t240 t241 t242 t243 w _ ?side1 ?side2 A17.out).mono ?_); (case side1 => repeat (first | (with_reducible first | exact HI230.out | apply IsS45.alloc | apply IsS45.drewN | apply IsS45.drew | apply IsS45.set_0 | apply IsS45.set_1 | apply IsS45.set_2 | apply IsS45.set_3 | apply IsS45.set_4 | apply IsS45.set_5 | apply IsS45.set_6) | exact HI230.out)); (case side2 => repeat (first | (with_reducible first | exact HB.out | apply below_alloc | apply pw_below_drewN | apply below_drew1 | refine below_set ?_ (IsS45.ge HI230.out)) | exact HB.out)); rintro e w22 ⟨rfl, hi, hb, hk⟩; have n0_ := Aside0.mk (Kd.R_mono (Kd.R_keep (IsS45.apart (show IsS45 w _ gb230 x231000_1 x231001_1 x231002_1 x231003_1 x231004_1 x231005_1 x231006_1 from by repeat (first | (with_reducible first | exact HI230.out | apply IsS45.alloc | apply IsS45.drewN | apply IsS45.drew | apply IsS45.set_0 | apply IsS45.set_1 | apply IsS45.set_2 | apply IsS45.set_3 | apply IsS45.set_4 | apply IsS45.set_5 | apply IsS45.set_6) | exact HI230.out)) (by (with_reducible repeat (first | apply Kd.R_alloc | apply Kd.R_drewN | apply Kd.R_drew)); exact HO_9.out) (by decide)) hk (fun _ h => h.2)) (fun _ h => h.1)); have n1_ := Aside0.mk (hb); have n2_ := Aside0.mk (hi); clear HO_9; clear HB; clear HI230; have HO_9 := n0_; have HB := n1_; have HI230 := n2_; clear n0_ n1_ n2_; (try clear hb); (try clear hb2); (try clear hk); (try clear hi)))
                      repeat (go_quiet (first | (go_at_call 15; (with_reducible refine (bucket_Bucket_Take.calls gb230 x231000_1 x231001_1 x231002_1 x231003_1 x231004_1 x231005_1 x231006_1 (rd y231 x33_1) false t237 t238 t239 t240 t241 t242 t243 w _ ?side1 ?side2 A17.out).mono ?_); (case side1 => repeat (first | (with_reducible first | exact HI230.out | apply IsS45.alloc | apply IsS45.drewN | apply IsS45.drew | apply IsS45.set_0 | apply IsS45.set_1 | apply IsS45.set_2 | apply IsS45.set_3 | apply IsS45.set_4 | apply IsS45.set_5 | apply IsS45.set_6) | exact HI230.out)); (case side2 => repeat (first | (with_reducible first | exact HB.out | apply below_alloc | apply pw_below_drewN | apply below_drew1 | refine below_set ?_ (IsS45.ge HI230.out)) | exact HB.out)); rintro e w22 ⟨rfl, hi, hb, hk⟩; have n0_ := Aside0.mk (Kd.R_mono (Kd.R_keep (IsS45.apart (show IsS45 w _ gb230 x231000_1 x231001_1 x231002_1 x231003_1 x231004_1 x231005_1 x231006_1 from by repeat (first | (with_reducible first | exact HI230.out | apply IsS45.alloc | apply IsS45.drewN | apply IsS45.drew | apply IsS45.set_0 | apply IsS45.set_1 | apply IsS45.set_2 | apply IsS45.set_3 | apply IsS45.set_4 | apply IsS45.set_5 | apply IsS45.set_6) | exact HI230.out)) (by (with_reducible repeat (first | apply Kd.R_alloc | apply Kd.R_drewN | apply Kd.R_drew)); exact HO_9.out) (by decide)) hk (fun _ h => h.2)) (fun _ h => h.1)); have n1_ := Aside0.mk (hb); have n2_ := Aside0.mk (hi); clear HO_9; clear HB; clear HI230; have HO_9 := n0_; have HB := n1_; have HI230 := n2_; clear n0_ n1_ n2_; (try clear hb); (try clear hb2); (try clear hk); (try clear hi))); try go_wp2_with (first | (go_at_call 15; (with_reducible refine (bucket_Bucket_Take.calls gb230 x231000_1 x231001_1 x231002_1 x231003_1 x231004_1 x231005_1 x231006_1 (rd y231 x33_1) false t237 t238 t239 t240 t241 t242 t243 w _ ?side1 ?side2 A17.out).mono ?_); (case side1 => repeat (first | (with_reducible first | exact HI230.out | apply IsS45.alloc | apply IsS45.drewN | apply IsS45.drew | apply IsS45.set_0 | apply IsS45.set_1 | apply IsS45.set_2 | apply IsS45.set_3 | apply IsS45.set_4 | apply IsS45.set_5 | apply IsS45.set_6) | exact HI230.out)); (case side2 => repeat (first | (with_reducible first | exact HB.out | apply below_alloc | apply pw_below_drewN | apply below_drew1 | refine below_set ?_ (IsS45.ge HI230.out)) | exact HB.out)); rintro e w22 ⟨rfl, hi, hb, hk⟩; have n0_ := Aside0.mk (Kd.R_mono (Kd.R_keep (IsS45.apart (show IsS45 w _ gb230 x231000_1 x231001_1 x231002_1 x231003_1 x231004_1 x231005_1 x231006_1 from by repeat (first | (with_reducible first | exact HI230.out | apply IsS45.alloc | apply IsS45.drewN | apply IsS45.drew | apply IsS45.set_0 | apply IsS45.set_1 | apply IsS45.set_2 | apply IsS45.set_3 | apply IsS45.set_4 | apply IsS45.set_5 | apply IsS45.set_6) | exact HI230.out)) (by (with_reducible repeat (first | apply Kd.R_alloc | apply Kd.R_drewN | apply Kd.R_drew)); exact HO_9.out) (by decide)) hk (fun _ h => h.2)) (fun _ h => h.1)); have n1_ := Aside0.mk (hb); have n2_ := Aside0.mk (hi); clear HO_9; clear HB; clear HI230; have HO_9 := n0_; have HB := n1_; have HI230 := n2_; clear n0_ n1_ n2_; (try clear hb); (try clear hb2); (try clear hk); (try clear hi))))
                      go_roundg k1
                      case measure => have := HK1.out; omega
                      case rel => exact ⟨(x9_1), (wrap64 (x33_1 + 1)), (t237), (t238), (t239), (t240), (t241), (t242), (t243), (by first | rfl | (simp; done) | (simp [*]; done)), H', ⟨by have := HK1.out; omega⟩, ⟨by (with_reducible repeat (first | apply Kd.R_alloc | apply Kd.R_drewN | apply Kd.R_drew)); exact HO_9.out⟩, ⟨by repeat (first | (with_reducible first | exact HI230.out | apply IsS45.alloc | apply IsS45.drewN | apply IsS45.drew | apply IsS45.set_0 | apply IsS45.set_1 | apply IsS45.set_2 | apply IsS45.set_3 | apply IsS45.set_4 | apply IsS45.set_5 | apply IsS45.set_6) | exact HI230.out)⟩, ⟨by repeat (first | (with_reducible first | exact HB.out | apply below_alloc | apply pw_below_drewN | apply below_drew1 | refine below_set ?_ (IsS45.ge HI230.out)) | exact HB.out)⟩⟩
                  · rw [if_neg c16] at H
                    exact absurd H (by simp)
                · rw [if_neg c15] at H
                  exact absurd H (by simp)
              · rw [if_neg c14] at H
                have c14b0 : decide (x33_1 < (y231.length : Int)) = false := decide_eq_false c14
                clear c14
                have H' := Aside0.mk H
                clear H
                obtain ⟨Ao23, co23, eo23⟩ := Kd.R_slice HO_9.out
                subst eo23
                go_wp2
                repeat (go_quiet (fail); try go_wp2)
                go_loopg [47] k1 (fun kq v47 w' => ∃ (x47_2 : Int), v47 = .int .i64 x47_2 ∧ Aside0 (tocsinlaw14_BucketBudget.l1 kq a0 a1 x9_1 (x9_1.length : Int) x47_2 = some r) ∧ Aside0 (kq ≤ k1) ∧ Aside0 (Kd.R (Kd.int .i64) 2 w' w.heap.size (fun _ => True) (.slice Ao23 x9_1.length co23) x9_1) ∧ Aside0 (Below w.heap.size w w'))
                case atStart => exact ⟨(0), (by first | rfl | (simp; done) | (simp [*]; done)), H', ⟨Nat.le_refl _⟩, ⟨by (with_reducible repeat (first | apply Kd.R_alloc | apply Kd.R_drewN | apply Kd.R_drew)); exact HO_9.out⟩, ⟨by repeat (first | (with_reducible first | exact HB.out | apply below_alloc | apply pw_below_drewN | apply below_drew1 | refine below_set ?_ (IsS45.ge HI230.out)) | exact HB.out)⟩⟩
                case round =>
                  clear H'
                  try clear c1
                  try clear q1
                  try clear c2
                  try clear p2
                  try clear q2
                  try clear hx2
                  try clear c4
                  try clear c5
                  try clear p6
                  try clear c7
                  try clear c9
                  try clear c9b0
                  try clear c9b1
                  try clear c10
                  try clear c10b0
                  try clear c10b1
                  try clear q13
                  try clear c14
                  try clear c14b0
                  try clear c15
                  try clear c15b0
                  try clear c16
                  try clear c16b0
                  try clear c18
                  try clear c19
                  try clear p23
                  try clear q23
                  try clear hx23
                  try clear hx235_0
                  try clear p2
                  try clear p235
                  try clear q1
                  try clear q13
                  try clear q235
                  obtain ⟨x47_2, rfl, HA, HK2, HO_9, HB⟩ := hrel
                  cases gk with
                  | zero => exact absurd HA.out (by simp [tocsinlaw14_BucketBudget.l1])
                  | succ k2 =>
                    have H := HA.out
                    clear HA
                    simp only [tocsinlaw14_BucketBudget.l1] at H
                    by_cases c24 : x47_2 < (x9_1.length : Int)
                    · rw [if_pos c24] at H
                      have c24b0 : decide (x47_2 < (x9_1.length : Int)) = true := decide_eq_true c24
                      clear c24
                      have H' := Aside0.mk H
                      clear H
                      go_wp2
                      repeat (go_quiet (fail); try go_wp2)
                      go_loopg [13] k2 (fun kq v13 w' => ∃ (x13_3 : Int), v13 = .int .i64 x13_3 ∧ Aside0 (tocsinlaw14_BucketBudget.l2 kq a0 a1 x9_1 x47_2 x13_3 (x9_1.length : Int) x47_2 = some r) ∧ Aside0 (kq ≤ k2) ∧ Aside0 (Kd.R (Kd.int .i64) 2 w' w.heap.size (fun _ => True) (.slice Ao23 x9_1.length co23) x9_1) ∧ Aside0 (Below w.heap.size w w'))
                      case atStart => exact ⟨(x47_2), (by first | rfl | (simp; done) | (simp [*]; done)), H', ⟨Nat.le_refl _⟩, ⟨by (with_reducible repeat (first | apply Kd.R_alloc | apply Kd.R_drewN | apply Kd.R_drew)); exact HO_9.out⟩, ⟨by repeat (first | (with_reducible first | exact HB.out | apply below_alloc | apply pw_below_drewN | apply below_drew1) | exact HB.out)⟩⟩
                      case round =>
                        clear H'
                        try clear c1
                        try clear q1
                        try clear c2
                        try clear p2
                        try clear q2
                        try clear hx2
                        try clear c4
                        try clear c5
                        try clear p6
                        try clear c7
                        try clear c9
                        try clear c9b0
                        try clear c9b1
                        try clear c10
                        try clear c10b0
                        try clear c10b1
                        try clear q13
                        try clear c14
                        try clear c14b0
                        try clear c15
                        try clear c15b0
                        try clear c16
                        try clear c16b0
                        try clear c18
                        try clear c19
                        try clear p23
                        try clear q23
                        try clear hx23
                        try clear c24
                        try clear c24b0
                        try clear hx235_0
                        try clear p2
                        try clear p23
                        try clear p235
                        try clear p6
                        try clear q1
                        try clear q13
                        try clear q2
                        try clear q23
                        try clear q235
                        obtain ⟨x13_3, rfl, HA, HK3, HO_9, HB⟩ := hrel
                        cases gk with
                        | zero => exact absurd HA.out (by simp [tocsinlaw14_BucketBudget.l2])
                        | succ k3 =>
                          have H := HA.out
                          clear HA
                          simp only [tocsinlaw14_BucketBudget.l2] at H
                          by_cases c25 : x13_3 < (x9_1.length : Int)
                          · rw [if_pos c25] at H
                            have c25b0 : decide (x13_3 < (x9_1.length : Int)) = true := decide_eq_true c25
                            clear c25
                            by_cases c26 : 0 ≤ x13_3
                            · rw [if_pos c26] at H
                              have c26b0 : decide (0 ≤ x13_3) = true := decide_eq_true c26
                              clear c26
                              by_cases c27 : 0 ≤ x47_2
                              · rw [if_pos c27] at H
                                have c27b0 : decide (0 ≤ x47_2) = true := decide_eq_true c27
                                clear c27
                                by_cases c28 : x47_2 < (x9_1.length : Int)
                                · rw [if_pos c28] at H
                                  have c28b0 : decide (x47_2 < (x9_1.length : Int)) = true := decide_eq_true c28
                                  clear c28
                                  replace H := Option.bind_eq_some_iff.mp H
                                  obtain ⟨t249, A290, H⟩ := H
                                  replace H : (if (wrap64 ((wrap64 (x13_3 - x47_2)) + 1)) > t249 then (some false) else (tocsinlaw14_BucketBudget.l2 k3 a0 a1 x9_1 x47_2 (wrap64 (x13_3 + 1)) (x9_1.length : Int) x47_2)) = some r := H
                                  have A29 := Aside0.mk A290
                                  clear A290
                                  by_cases c30 : (wrap64 ((wrap64 (x13_3 - x47_2)) + 1)) > t249
                                  · rw [if_pos c30] at H
                                    have c30b0 : decide (t249 < (wrap64 ((wrap64 (x13_3 - x47_2)) + 1))) = true := decide_eq_true c30
                                    clear c30
                                    obtain rfl := Option.some.inj H
                                    have p247 : 0 ≤ (x13_3 : Int) := of_decide_eq_true (by first | (with_reducible assumption) | assumption)
                                    have q247 : x13_3 < (x9_1.length : Int) := of_decide_eq_true (by first | (with_reducible assumption) | assumption)
                                    obtain ⟨ad247, e247, hx247_0⟩ := Kd.at_int (Kd.R_reads' HO_9.out).2.2 x13_3 p247 q247
                                    cases e247
                                    replace p247 := eq_true p247
                                    replace q247 := eq_true q247
                                    have p248 : 0 ≤ (x47_2 : Int) := of_decide_eq_true (by first | (with_reducible assumption) | assumption)
                                    have q248 : x47_2 < (x9_1.length : Int) := of_decide_eq_true (by first | (with_reducible assumption) | assumption)
                                    obtain ⟨ad248, e248, hx248_0⟩ := Kd.at_int (Kd.R_reads' HO_9.out).2.2 x47_2 p248 q248
                                    obtain rfl : ad247 = ad248 := (by injection e248)
                                    replace p248 := eq_true p248
                                    replace q248 := eq_true q248
                                    go_wp2_with (first | (go_at_call 18; (with_reducible refine (bucket_Budget.calls a0 a1 (wrap64 ((rd x9_1 x13_3) - (rd x9_1 x47_2))) t249 _ A29.out).mono ?_); rintro e w' ⟨rfl, ⟨nd, rfl⟩⟩; (try first | exact ⟨rfl, _, World.drewN_drewN _ _ _⟩ | exact ⟨rfl, _, Eq.trans (World.drewN_drewN _ _ _) (congrArg (World.drewN _) (Nat.add_assoc _ _ _))⟩)))
                                    repeat (go_quiet (first | (go_at_call 18; (with_reducible refine (bucket_Budget.calls a0 a1 (wrap64 ((rd x9_1 x13_3) - (rd x9_1 x47_2))) t249 _ A29.out).mono ?_); rintro e w' ⟨rfl, ⟨nd, rfl⟩⟩; (try first | exact ⟨rfl, _, World.drewN_drewN _ _ _⟩ | exact ⟨rfl, _, Eq.trans (World.drewN_drewN _ _ _) (congrArg (World.drewN _) (Nat.add_assoc _ _ _))⟩))); try go_wp2_with (first | (go_at_call 18; (with_reducible refine (bucket_Budget.calls a0 a1 (wrap64 ((rd x9_1 x13_3) - (rd x9_1 x47_2))) t249 _ A29.out).mono ?_); rintro e w' ⟨rfl, ⟨nd, rfl⟩⟩; (try first | exact ⟨rfl, _, World.drewN_drewN _ _ _⟩ | exact ⟨rfl, _, Eq.trans (World.drewN_drewN _ _ _) (congrArg (World.drewN _) (Nat.add_assoc _ _ _))⟩))))
                                    go_ret
                                    exact ⟨by first | rfl | (simp [errW_none, errW_some] <;> rfl) | (simp only [← hji8]; first | rfl | (simp [errW_none, errW_some] <;> rfl)) | (simp [*, errW_none, errW_some] <;> rfl), by repeat (first | (with_reducible first | exact HB.out | apply below_alloc | apply pw_below_drewN | apply below_drew1) | exact HB.out)⟩
                                  · rw [if_neg c30] at H
                                    have c30b0 : decide (t249 < (wrap64 ((wrap64 (x13_3 - x47_2)) + 1))) = false := decide_eq_false c30
                                    clear c30
                                    have H' := Aside0.mk H
                                    clear H
                                    have p247 : 0 ≤ (x13_3 : Int) := of_decide_eq_true (by first | (with_reducible assumption) | assumption)
                                    have q247 : x13_3 < (x9_1.length : Int) := of_decide_eq_true (by first | (with_reducible assumption) | assumption)
                                    obtain ⟨ad247, e247, hx247_0⟩ := Kd.at_int (Kd.R_reads' HO_9.out).2.2 x13_3 p247 q247
                                    cases e247
                                    replace p247 := eq_true p247
                                    replace q247 := eq_true q247
                                    have p248 : 0 ≤ (x47_2 : Int) := of_decide_eq_true (by first | (with_reducible assumption) | assumption)
                                    have q248 : x47_2 < (x9_1.length : Int) := of_decide_eq_true (by first | (with_reducible assumption) | assumption)
                                    obtain ⟨ad248, e248, hx248_0⟩ := Kd.at_int (Kd.R_reads' HO_9.out).2.2 x47_2 p248 q248
                                    obtain rfl : ad247 = ad248 := (by injection e248)
                                    replace p248 := eq_true p248
                                    replace q248 := eq_true q248
                                    go_wp2_with (first | (go_at_call 18; (with_reducible refine (bucket_Budget.calls a0 a1 (wrap64 ((rd x9_1 x13_3) - (rd x9_1 x47_2))) t249 _ A29.out).mono ?_); rintro e w' ⟨rfl, ⟨nd, rfl⟩⟩; (try first | exact ⟨rfl, _, World.drewN_drewN _ _ _⟩ | exact ⟨rfl, _, Eq.trans (World.drewN_drewN _ _ _) (congrArg (World.drewN _) (Nat.add_assoc _ _ _))⟩)))
                                    repeat (go_quiet (first | (go_at_call 18; (with_reducible refine (bucket_Budget.calls a0 a1 (wrap64 ((rd x9_1 x13_3) - (rd x9_1 x47_2))) t249 _ A29.out).mono ?_); rintro e w' ⟨rfl, ⟨nd, rfl⟩⟩; (try first | exact ⟨rfl, _, World.drewN_drewN _ _ _⟩ | exact ⟨rfl, _, Eq.trans (World.drewN_drewN _ _ _) (congrArg (World.drewN _) (Nat.add_assoc _ _ _))⟩))); try go_wp2_with (first | (go_at_call 18; (with_reducible refine (bucket_Budget.calls a0 a1 (wrap64 ((rd x9_1 x13_3) - (rd x9_1 x47_2))) t249 _ A29.out).mono ?_); rintro e w' ⟨rfl, ⟨nd, rfl⟩⟩; (try first | exact ⟨rfl, _, World.drewN_drewN _ _ _⟩ | exact ⟨rfl, _, Eq.trans (World.drewN_drewN _ _ _) (congrArg (World.drewN _) (Nat.add_assoc _ _ _))⟩))))
                                    go_roundg k3
                                    case measure => have := HK1.out; have := HK2.out; have := HK3.out; omega
                                    case rel => exact ⟨(wrap64 (x13_3 + 1)), (by first | rfl | (simp; done) | (simp [*]; done)), H', ⟨by have := HK1.out; have := HK2.out; have := HK3.out; omega⟩, ⟨by (with_reducible repeat (first | apply Kd.R_alloc | apply Kd.R_drewN | apply Kd.R_drew)); exact HO_9.out⟩, ⟨by repeat (first | (with_reducible first | exact HB.out | apply below_alloc | apply pw_below_drewN | apply below_drew1) | exact HB.out)⟩⟩
                                · rw [if_neg c28] at H
                                  exact absurd H (by simp)
                              · rw [if_neg c27] at H
                                exact absurd H (by simp)
                            · rw [if_neg c26] at H
                              exact absurd H (by simp)
                          · rw [if_neg c25] at H
                            have c25b0 : decide (x13_3 < (x9_1.length : Int)) = false := decide_eq_false c25
                            clear c25
                            have H' := Aside0.mk H
                            clear H
                            go_wp2
                            repeat (go_quiet (fail); try go_wp2)
                            go_roundg k3
                            case measure => have := HK1.out; have := HK2.out; have := HK3.out; omega
                            case rel => exact ⟨(wrap64 (x47_2 + 1)), (by first | rfl | (simp; done) | (simp [*]; done)), H', ⟨by have := HK1.out; have := HK2.out; have := HK3.out; omega⟩, ⟨by (with_reducible repeat (first | apply Kd.R_alloc | apply Kd.R_drewN | apply Kd.R_drew)); exact HO_9.out⟩, ⟨by repeat (first | (with_reducible first | exact HB.out | apply below_alloc | apply pw_below_drewN | apply below_drew1) | exact HB.out)⟩⟩
                    · rw [if_neg c24] at H
                      have c24b0 : decide (x47_2 < (x9_1.length : Int)) = false := decide_eq_false c24
                      clear c24
                      obtain rfl := Option.some.inj H
                      go_wp2
                      repeat (go_quiet (fail); try go_wp2)
                      go_ret
                      exact ⟨by first | rfl | (simp [errW_none, errW_some] <;> rfl) | (simp only [← hji8]; first | rfl | (simp [errW_none, errW_some] <;> rfl)) | (simp [*, errW_none, errW_some] <;> rfl), by repeat (first | (with_reducible first | exact HB.out | apply below_alloc | apply pw_below_drewN | apply below_drew1) | exact HB.out)⟩
        · rw [if_neg c10] at H
          exact absurd H (by simp)
      · rw [if_neg c9] at H
        exact absurd H (by simp)
    · replace c7 := Bool.eq_false_iff.mpr c7
      subst c7
      have H1 : (some true) = some r := by rw [if_neg (show ¬ (false = true) by decide)] at H; exact H
      clear H
      have H := H1
      clear H1
      obtain rfl := Option.some.inj H
      go_enter Try.func4, Try.ntmps4
      go_wp2_with (first | (go_at_call 9; (with_reducible refine (tocsinlaw14_fixed.calls  true _ A4.out).mono ?_); rintro e w31 ⟨rfl, hb⟩; have n0_ := Aside0.mk (below_step (by repeat (first | (with_reducible first | exact HB.out | apply below_alloc | apply pw_below_drewN | apply below_drew1) | exact HB.out)) hb); clear HB; have HB := n0_; clear n0_; (try clear hb); (try clear hb2); (try clear hk); (try clear hi)) | (go_at_call 10; go_in) | (go_at_call 20; (with_reducible refine (bucket_right.calls a0 a1 false _ A6.out).mono ?_); rintro e w' ⟨rfl, ⟨nd, rfl⟩⟩; (try first | exact ⟨rfl, _, World.drewN_drewN _ _ _⟩ | exact ⟨rfl, _, Eq.trans (World.drewN_drewN _ _ _) (congrArg (World.drewN _) (Nat.add_assoc _ _ _))⟩)))
      repeat (go_quiet (first | (go_at_call 9; (with_reducible refine (tocsinlaw14_fixed.calls  true _ A4.out).mono ?_); rintro e w31 ⟨rfl, hb⟩; have n0_ := Aside0.mk (below_step (by repeat (first | (with_reducible first | exact HB.out | apply below_alloc | apply pw_below_drewN | apply below_drew1) | exact HB.out)) hb); clear HB; have HB := n0_; clear n0_; (try clear hb); (try clear hb2); (try clear hk); (try clear hi)) | (go_at_call 10; go_in) | (go_at_call 20; (with_reducible refine (bucket_right.calls a0 a1 false _ A6.out).mono ?_); rintro e w' ⟨rfl, ⟨nd, rfl⟩⟩; (try first | exact ⟨rfl, _, World.drewN_drewN _ _ _⟩ | exact ⟨rfl, _, Eq.trans (World.drewN_drewN _ _ _) (congrArg (World.drewN _) (Nat.add_assoc _ _ _))⟩))); try go_wp2_with (first | (go_at_call 9; (with_reducible refine (tocsinlaw14_fixed.calls  true _ A4.out).mono ?_); rintro e w31 ⟨rfl, hb⟩; have n0_ := Aside0.mk (below_step (by repeat (first | (with_reducible first | exact HB.out | apply below_alloc | apply pw_below_drewN | apply below_drew1) | exact HB.out)) hb); clear HB; have HB := n0_; clear n0_; (try clear hb); (try clear hb2); (try clear hk); (try clear hi)) | (go_at_call 10; go_in) | (go_at_call 20; (with_reducible refine (bucket_right.calls a0 a1 false _ A6.out).mono ?_); rintro e w' ⟨rfl, ⟨nd, rfl⟩⟩; (try first | exact ⟨rfl, _, World.drewN_drewN _ _ _⟩ | exact ⟨rfl, _, Eq.trans (World.drewN_drewN _ _ _) (congrArg (World.drewN _) (Nat.add_assoc _ _ _))⟩))))
      go_ret
      exact ⟨by first | rfl | (simp [errW_none, errW_some] <;> rfl) | (simp [*, errW_none, errW_some] <;> rfl), by repeat (first | (with_reducible first | exact HB.out | apply below_alloc | apply pw_below_drewN | apply below_drew1) | exact HB.out)⟩
  · replace c5 := Bool.eq_false_iff.mpr c5
    subst c5
    have H1 : (some false) = some r := by rw [if_neg (show ¬ (false = true) by decide)] at H; exact H
    clear H
    have H := H1
    clear H1
    obtain rfl := Option.some.inj H
    go_enter Try.func4, Try.ntmps4
    go_wp2_with (first | (go_at_call 9; (with_reducible refine (tocsinlaw14_fixed.calls  false _ A4.out).mono ?_); rintro e w32 ⟨rfl, hb⟩; have n0_ := Aside0.mk (below_step (by repeat (first | (with_reducible first | exact HB.out | apply below_alloc | apply pw_below_drewN | apply below_drew1) | exact HB.out)) hb); clear HB; have HB := n0_; clear n0_; (try clear hb); (try clear hb2); (try clear hk); (try clear hi)))
    repeat (go_quiet (first | (go_at_call 9; (with_reducible refine (tocsinlaw14_fixed.calls  false _ A4.out).mono ?_); rintro e w32 ⟨rfl, hb⟩; have n0_ := Aside0.mk (below_step (by repeat (first | (with_reducible first | exact HB.out | apply below_alloc | apply pw_below_drewN | apply below_drew1) | exact HB.out)) hb); clear HB; have HB := n0_; clear n0_; (try clear hb); (try clear hb2); (try clear hk); (try clear hi))); try go_wp2_with (first | (go_at_call 9; (with_reducible refine (tocsinlaw14_fixed.calls  false _ A4.out).mono ?_); rintro e w32 ⟨rfl, hb⟩; have n0_ := Aside0.mk (below_step (by repeat (first | (with_reducible first | exact HB.out | apply below_alloc | apply pw_below_drewN | apply below_drew1) | exact HB.out)) hb); clear HB; have HB := n0_; clear n0_; (try clear hb); (try clear hb2); (try clear hk); (try clear hi))))
    go_ret
    exact ⟨by first | rfl | (simp [errW_none, errW_some] <;> rfl) | (simp [*, errW_none, errW_some] <;> rfl), by repeat (first | (with_reducible first | exact HB.out | apply below_alloc | apply pw_below_drewN | apply below_drew1) | exact HB.out)⟩

/-- THE ONE PURE STATEMENT of tocsinlaw14_BucketBudget: yours. -/
def tocsinlaw14_BucketBudget.Pure : Prop := ∀ (a0 : Int) (a1 : Int) (l2 : List Int), (Lit.int .i64 a0).wf = true → (Lit.int .i64 a1).wf = true → l2.length ≤ maxLen → l2.length * 8 ≤ 140737488351232 → (∀ x ∈ l2, (Lit.int .i64 x).wf = true) → ∃ k, tocsinlaw14_BucketBudget.f k a0 a1 l2 = some true
theorem tocsinlaw14_BucketBudget.walk (P : tocsinlaw14_BucketBudget.Pure) (a0 : Int) (a1 : Int) (a2 : Option Addr) (len2 cap2 : Nat) (z2 : List Int) (w : World) (w0 : (Lit.int .i64 a0).wf = true) (w1 : (Lit.int .i64 a1).wf = true) (w2 : (a2 = none ∧ len2 = 0 ∧ cap2 = 0 ∧ z2 = []) ∨ ∃ x, a2 = some x ∧ len2 ≤ cap2 ∧ cap2 ≤ maxLen ∧ z2.length = cap2 ∧ (∀ i, i < z2.length → w.cell? (x.add i) = some (.int .i64 (z2.getD i 0))) ∧ ∀ n ∈ z2, (Lit.int .i64 n).wf = true) (y2 : len2 * 8 ≤ 140737488351232) :
    Calls Try.prog 4 #[.int .i64 a0, .int .i64 a1, .slice a2 len2 cap2] w fun e w' => e = .returned (.bool true) ∧ Below w.heap.size w w' := by
  obtain ⟨l2, rfl, hr2, hm2, hw2, hc2⟩ := ReadsInt.ofRowC w2
  obtain ⟨k, h⟩ := P a0 a1 l2 w0 w1 hm2 y2 hw2
  refine (tocsinlaw14_BucketBudget.calls k a0 a1 _ _ l2 true w (Kd.C_of_reads (d := (0 : Int)) (h1 := fun _ => rfl) hr2) hc2 h).mono ?_
  rintro e w' ⟨rfl, hd⟩
  exact ⟨rfl, hd⟩

/-! ### tocsinlaw14_BucketFair: function 5 -/
def tocsinlaw14_BucketFair.l0 : Nat → Int → Int → List Int → Int → Int → Int → Int → Bool → Int → Int → Int → Int → Option (Bool)
  | 0, _, _, _, _, _, _, _, _, _, _, _, _ => none
  | k + 1, x0, x9, x24, x25, x26, x253000, x253001, x253002, x253003, x253004, x253005, x253006 => if x26 < x25 then (if 0 ≤ x26 then (if x26 < (x24.length : Int) then (if x9 > 1125899906842624 then (some true) else ((bucket_Bucket_Take.f x253000 x253001 x253002 x253003 x253004 x253005 x253006 x9).bind fun bt254 => (if bt254.1 = true then ((bucket_Bucket_Passed.f bt254.2.1 bt254.2.2.1 bt254.2.2.2.1 bt254.2.2.2.2.1 bt254.2.2.2.2.2.1 bt254.2.2.2.2.2.2.1 bt254.2.2.2.2.2.2.2).bind fun bt262 => (if bt262.1 = (wrap64 (x26 + 1)) then ((bucket_Bucket_Refused.f bt262.2.1 bt262.2.2.1 bt262.2.2.2.1 bt262.2.2.2.2.1 bt262.2.2.2.2.2.1 bt262.2.2.2.2.2.2.1 bt262.2.2.2.2.2.2.2).bind fun bt270 => (if bt270.1 = 0 then (tocsinlaw14_BucketFair.l0 k x0 (wrap64 (x9 + (wrap64 (x0 + (wrap64 (rd x24 x26)))))) x24 x25 (wrap64 (x26 + 1)) bt270.2.1 bt270.2.2.1 bt270.2.2.2.1 bt270.2.2.2.2.1 bt270.2.2.2.2.2.1 bt270.2.2.2.2.2.2.1 bt270.2.2.2.2.2.2.2) else (some false))) else (some false))) else (some false)))) else (none)) else (none)) else (some true)
def tocsinlaw14_BucketFair.f (k : Nat) (a0 : Int) (a1 : Int) (l2 : List Int) : Option (Bool) := (tocsinlaw14_fixed.f).bind fun t250 => (if t250 = true then ((bucket_right.f a0 a1).bind fun t251 => (if t251 = true then (tocsinlaw14_BucketFair.l0 k a0 (-5) l2 (l2.length : Int) 0 a0 a1 false 0 0 0 0) else (some true))) else (some false))
theorem tocsinlaw14_BucketFair.mono_l : ∀ k, (∀ y0 y1 y2 y3 y4 y5 y6 y7 y8 y9 y10 y11, LeO (tocsinlaw14_BucketFair.l0 k y0 y1 y2 y3 y4 y5 y6 y7 y8 y9 y10 y11) (tocsinlaw14_BucketFair.l0 (k + 1) y0 y1 y2 y3 y4 y5 y6 y7 y8 y9 y10 y11))
  | 0 => fun _ _ _ _ _ _ _ _ _ _ _ _ r h => by simp [tocsinlaw14_BucketFair.l0] at h
  | k + 1 => by
    have ih0 := tocsinlaw14_BucketFair.mono_l k
    · intro y0 y1 y2 y3 y4 y5 y6 y7 y8 y9 y10 y11
      unfold tocsinlaw14_BucketFair.l0
      repeat' first
      | (with_reducible exact ih0 _ _ _ _ _ _ _ _ _ _ _ _)
      | (with_reducible exact LeO.refl _)
      | (with_reducible exact LeO.none _)
      | (with_reducible refine LeO.ite ?_ ?_)
      | (with_reducible refine LeO.bind ?_ (fun _ => ?_))
      | exact ih0 _ _ _ _ _ _ _ _ _ _ _ _
      | exact LeO.none _
      | refine LeO.ite ?_ ?_
      | refine LeO.bind ?_ (fun _ => ?_)
theorem tocsinlaw14_BucketFair.mono : ∀ a0 a1 a2 k, LeO (tocsinlaw14_BucketFair.f k a0 a1 a2) (tocsinlaw14_BucketFair.f (k + 1) a0 a1 a2) := by
  intro a0 a1 a2 k
  have ih0 := tocsinlaw14_BucketFair.mono_l k
  unfold tocsinlaw14_BucketFair.f
  repeat' first
      | (with_reducible exact ih0 _ _ _ _ _ _ _ _ _ _ _ _)
      | (with_reducible exact LeO.refl _)
      | (with_reducible exact LeO.none _)
      | (with_reducible refine LeO.ite ?_ ?_)
      | (with_reducible refine LeO.bind ?_ (fun _ => ?_))
      | exact ih0 _ _ _ _ _ _ _ _ _ _ _ _
      | exact LeO.none _
      | refine LeO.ite ?_ ?_
      | refine LeO.bind ?_ (fun _ => ?_)
set_option maxHeartbeats 8000000 in
set_option maxRecDepth 100000 in
theorem tocsinlaw14_BucketFair.calls (k : Nat) (a0 : Int) (a1 : Int) (A2 : Option Addr) (c2 : Nat) (l2 : List Int) (r : Bool) (w : World) (hr2 : Kd.C (Kd.int .u16) w A2 l2.length l2) (hc2 : l2.length ≤ c2) (h : tocsinlaw14_BucketFair.f k a0 a1 l2 = some r) :
    Calls Try.prog 5 #[.int .i64 a0, .int .i64 a1, .slice A2 l2.length c2] w fun e w' => e = .returned (.bool r) ∧ Below w.heap.size w w' := by
  have HR2 := Aside0.mk hr2
  have HC2 := Aside0.mk hc2
  clear hr2 hc2
  have HB := Aside0.mk (Below.refl w.heap.size w)
  have H : ((tocsinlaw14_fixed.f).bind fun t250 => (if t250 = true then ((bucket_right.f a0 a1).bind fun t251 => (if t251 = true then (tocsinlaw14_BucketFair.l0 k a0 (-5) l2 (l2.length : Int) 0 a0 a1 false 0 0 0 0) else (some true))) else (some false))) = some r := h
  clear h
  replace H := Option.bind_eq_some_iff.mp H
  obtain ⟨t250, A40, H⟩ := H
  replace H : (if t250 = true then ((bucket_right.f a0 a1).bind fun t251 => (if t251 = true then (tocsinlaw14_BucketFair.l0 k a0 (-5) l2 (l2.length : Int) 0 a0 a1 false 0 0 0 0) else (some true))) else (some false)) = some r := H
  have A4 := Aside0.mk A40
  clear A40
  by_cases c5 : t250 = true
  · subst c5
    have H1 : ((bucket_right.f a0 a1).bind fun t251 => (if t251 = true then (tocsinlaw14_BucketFair.l0 k a0 (-5) l2 (l2.length : Int) 0 a0 a1 false 0 0 0 0) else (some true))) = some r := by rw [if_pos rfl] at H; exact H
    clear H
    have H := H1
    clear H1
    replace H := Option.bind_eq_some_iff.mp H
    obtain ⟨t251, A60, H⟩ := H
    replace H : (if t251 = true then (tocsinlaw14_BucketFair.l0 k a0 (-5) l2 (l2.length : Int) 0 a0 a1 false 0 0 0 0) else (some true)) = some r := H
    have A6 := Aside0.mk A60
    clear A60
    by_cases c7 : t251 = true
    · subst c7
      have H1 : (tocsinlaw14_BucketFair.l0 k a0 (-5) l2 (l2.length : Int) 0 a0 a1 false 0 0 0 0) = some r := by rw [if_pos rfl] at H; exact H
      clear H
      have H := H1
      clear H1
      have H' := Aside0.mk H
      clear H
      go_enter Try.func5, Try.ntmps5
      go_wp2_with (first | ((with_reducible refine gate_callee (f := 9) rfl ?_); refine goesL_ (some 12) rfl rfl Try.func9 (by kernel_rfl) rfl #[] rfl (by (try simp only [List.map_toArray, List.map_cons, List.map_nil]); first | done | rfl | (simp only [List.length_drop, List.length_take]; rfl)) ?_; (with_reducible refine (tocsinlaw14_fixed.calls  true _ A4.out).mono ?_); rintro e w8 ⟨rfl, hb⟩; refine ⟨_, rfl, ?_⟩; have n0_ := Aside0.mk (below_step (by repeat (first | (with_reducible first | exact HB.out | apply below_alloc | apply pw_below_drewN | apply below_drew1) | exact HB.out)) hb); clear HB; have HB := n0_; clear n0_; (try clear hb); (try clear hb2); (try clear hk); (try clear hi)) | (go_at_call 10; go_in) | ((with_reducible refine gate_callee (f := 20) rfl ?_); refine goesL_ (some 8) rfl rfl Try.func20 (by kernel_rfl) rfl #[.int .i64 a0, .int .i64 a1] rfl (by (try simp only [List.map_toArray, List.map_cons, List.map_nil]); first | done | rfl | (simp only [List.length_drop, List.length_take]; rfl)) ?_; (with_reducible refine (bucket_right.calls a0 a1 true _ A6.out).mono ?_); rintro e w' ⟨rfl, ⟨nd, rfl⟩⟩; refine ⟨_, rfl, ?_⟩) | ((with_reducible refine gate_dst (N := 13) rfl ?_); refine box_event ?hg (N := 13) ?hd (cs := #[.int .i64 a0, .int .i64 a1, .bool false, .int .i64 0, .int .i64 0, .int .i64 0, .int .i64 0]) (t := 45) ?hr ?_; (case hd => rfl); (case hg => rfl); (case hr => first | (go_simp; done) | (go_simp; rfl)); intro gb252 hg w9 hbox hb; have n0_ := Aside0.mk (below_step (by repeat (first | (with_reducible first | exact HB.out | apply below_alloc | apply pw_below_drewN | apply below_drew1) | exact HB.out)) hb); have n1_ := Aside0.mk (hbox); have n2_ := Aside0.mk ((by rw [hg]; exact (below_size (by repeat (first | (with_reducible first | exact HB.out | apply below_alloc | apply pw_below_drewN | apply below_drew1) | exact HB.out))) : w.heap.size ≤ gb252)); have n3_ := Aside0.mk ((by rw [hg]; exact (below_size (by repeat (first | (with_reducible first | exact HB.out | apply below_alloc | apply pw_below_drewN | apply below_drew1) | exact HB.out))) : w.heap.size ≤ gb252)); clear HB; have HB := n0_; have BK252 := n1_; have GW252 := n2_; have GE252 := n3_; clear n0_ n1_ n2_ n3_; clear hb hbox hg; have HI252 := Aside0.mk (show IsS45 w w9 gb252 a0 a1 false 0 0 0 0 from ⟨BK252.out, GE252.out⟩); clear BK252))
      go_loopg [9, 26] k (fun kq v9 v26 w' => ∃ (x9_1 : Int) (x26_1 : Int) (x253000_1 : Int) (x253001_1 : Int) (x253002_1 : Bool) (x253003_1 : Int) (x253004_1 : Int) (x253005_1 : Int) (x253006_1 : Int), v9 = .int .i64 x9_1 ∧ v26 = .int .i64 x26_1 ∧ Aside0 (tocsinlaw14_BucketFair.l0 kq a0 x9_1 l2 (l2.length : Int) x26_1 x253000_1 x253001_1 x253002_1 x253003_1 x253004_1 x253005_1 x253006_1 = some r) ∧ Aside0 (kq ≤ k) ∧ Aside0 (IsS45 w w' gb252 x253000_1 x253001_1 x253002_1 x253003_1 x253004_1 x253005_1 x253006_1) ∧ Aside0 (Below w.heap.size w w'))
      case atStart => exact ⟨((-5)), (0), (a0), (a1), (false), (0), (0), (0), (0), (by first | rfl | (simp; done) | (simp [*]; done)), (by first | rfl | (simp; done) | (simp [*]; done)), H', ⟨Nat.le_refl _⟩, ⟨by repeat (first | (with_reducible first | exact HI252.out | apply IsS45.alloc | apply IsS45.drewN | apply IsS45.drew | apply IsS45.set_0 | apply IsS45.set_1 | apply IsS45.set_2 | apply IsS45.set_3 | apply IsS45.set_4 | apply IsS45.set_5 | apply IsS45.set_6) | exact HI252.out)⟩, ⟨by repeat (first | (with_reducible first | exact HB.out | apply below_alloc | apply pw_below_drewN | apply below_drew1 | refine below_set ?_ (IsS45.ge HI252.out)) | exact HB.out)⟩⟩
      case round =>
        clear H'
        try clear c2
        try clear p2
        try clear c5
        try clear c7
        try clear c9
        obtain ⟨x9_1, x26_1, x253000_1, x253001_1, x253002_1, x253003_1, x253004_1, x253005_1, x253006_1, rfl, rfl, HA, HK1, HI252, HB⟩ := hrel
        cases gk with
        | zero => exact absurd HA.out (by simp [tocsinlaw14_BucketFair.l0])
        | succ k1 =>
          have H := HA.out
          clear HA
          simp only [tocsinlaw14_BucketFair.l0] at H
          by_cases c10 : x26_1 < (l2.length : Int)
          · rw [if_pos c10] at H
            have c10b0 : decide (x26_1 < (l2.length : Int)) = true := decide_eq_true c10
            clear c10
            by_cases c11 : 0 ≤ x26_1
            · rw [if_pos c11] at H
              have c11b0 : decide (0 ≤ x26_1) = true := decide_eq_true c11
              clear c11
              by_cases c12 : x26_1 < (l2.length : Int)
              · rw [if_pos c12] at H
                have c12b0 : decide (x26_1 < (l2.length : Int)) = true := decide_eq_true c12
                clear c12
                by_cases c13 : x9_1 > 1125899906842624
                · rw [if_pos c13] at H
                  have c13b0 : decide (1125899906842624 < x9_1) = true := decide_eq_true c13
                  clear c13
                  obtain rfl := Option.some.inj H
                  have p253 : 0 ≤ (x26_1 : Int) := of_decide_eq_true (by first | (with_reducible assumption) | assumption)
                  have q253 : x26_1 < (l2.length : Int) := of_decide_eq_true (by first | (with_reducible assumption) | assumption)
                  obtain ⟨ad253, e253, hx253_0⟩ := Kd.at_int HR2.out x26_1 p253 q253
                  cases e253
                  replace hx253_0 := (HB.out.cell (World.block_lt_of_cell? w _ hx253_0)).trans hx253_0
                  replace p253 := eq_true p253
                  replace q253 := eq_true q253
                  go_wp2
                  go_ret
                  exact ⟨by first | rfl | (simp [errW_none, errW_some] <;> rfl) | (simp [*, errW_none, errW_some] <;> rfl), by repeat (first | (with_reducible first | exact HB.out | apply below_alloc | apply pw_below_drewN | apply below_drew1 | refine below_set ?_ (IsS45.ge HI252.out)) | exact HB.out)⟩
                · rw [if_neg c13] at H
                  have c13b0 : decide (1125899906842624 < x9_1) = false := decide_eq_false c13
                  clear c13
                  replace H := Option.bind_eq_some_iff.mp H
                  obtain ⟨⟨t254, t255, t256, t257, t258, t259, t260, t261⟩, A140, H⟩ := H
                  replace H : (if t254 = true then ((bucket_Bucket_Passed.f t255 t256 t257 t258 t259 t260 t261).bind fun bt262 => (if bt262.1 = (wrap64 (x26_1 + 1)) then ((bucket_Bucket_Refused.f bt262.2.1 bt262.2.2.1 bt262.2.2.2.1 bt262.2.2.2.2.1 bt262.2.2.2.2.2.1 bt262.2.2.2.2.2.2.1 bt262.2.2.2.2.2.2.2).bind fun bt270 => (if bt270.1 = 0 then (tocsinlaw14_BucketFair.l0 k1 a0 (wrap64 (x9_1 + (wrap64 (a0 + (wrap64 (rd l2 x26_1)))))) l2 (l2.length : Int) (wrap64 (x26_1 + 1)) bt270.2.1 bt270.2.2.1 bt270.2.2.2.1 bt270.2.2.2.2.1 bt270.2.2.2.2.2.1 bt270.2.2.2.2.2.2.1 bt270.2.2.2.2.2.2.2) else (some false))) else (some false))) else (some false)) = some r := H
                  have A14 := Aside0.mk A140
                  clear A140
                  by_cases c15 : t254 = true
                  · subst c15
                    have H1 : ((bucket_Bucket_Passed.f t255 t256 t257 t258 t259 t260 t261).bind fun bt262 => (if bt262.1 = (wrap64 (x26_1 + 1)) then ((bucket_Bucket_Refused.f bt262.2.1 bt262.2.2.1 bt262.2.2.2.1 bt262.2.2.2.2.1 bt262.2.2.2.2.2.1 bt262.2.2.2.2.2.2.1 bt262.2.2.2.2.2.2.2).bind fun bt270 => (if bt270.1 = 0 then (tocsinlaw14_BucketFair.l0 k1 a0 (wrap64 (x9_1 + (wrap64 (a0 + (wrap64 (rd l2 x26_1)))))) l2 (l2.length : Int) (wrap64 (x26_1 + 1)) bt270.2.1 bt270.2.2.1 bt270.2.2.2.1 bt270.2.2.2.2.1 bt270.2.2.2.2.2.1 bt270.2.2.2.2.2.2.1 bt270.2.2.2.2.2.2.2) else (some false))) else (some false))) = some r := by rw [if_pos rfl] at H; exact H
                    clear H
                    have H := H1
                    clear H1
                    replace H := Option.bind_eq_some_iff.mp H
                    obtain ⟨⟨t262, t263, t264, t265, t266, t267, t268, t269⟩, A160, H⟩ := H
                    replace H : (if t262 = (wrap64 (x26_1 + 1)) then ((bucket_Bucket_Refused.f t263 t264 t265 t266 t267 t268 t269).bind fun bt270 => (if bt270.1 = 0 then (tocsinlaw14_BucketFair.l0 k1 a0 (wrap64 (x9_1 + (wrap64 (a0 + (wrap64 (rd l2 x26_1)))))) l2 (l2.length : Int) (wrap64 (x26_1 + 1)) bt270.2.1 bt270.2.2.1 bt270.2.2.2.1 bt270.2.2.2.2.1 bt270.2.2.2.2.2.1 bt270.2.2.2.2.2.2.1 bt270.2.2.2.2.2.2.2) else (some false))) else (some false)) = some r := H
                    have A16 := Aside0.mk A160
                    clear A160
                    by_cases c17 : t262 = (wrap64 (x26_1 + 1))
                    · rw [if_pos c17] at H
                      have c17b0 : (t262 == (wrap64 (x26_1 + 1))) = true := beq_iff_eq.mpr c17
                      have c17b1 : (t262 != (wrap64 (x26_1 + 1))) = false := bne_eq_false_iff_eq.mpr c17
                      clear c17
                      replace H := Option.bind_eq_some_iff.mp H
                      obtain ⟨⟨t270, t271, t272, t273, t274, t275, t276, t277⟩, A180, H⟩ := H
                      replace H : (if t270 = 0 then (tocsinlaw14_BucketFair.l0 k1 a0 (wrap64 (x9_1 + (wrap64 (a0 + (wrap64 (rd l2 x26_1)))))) l2 (l2.length : Int) (wrap64 (x26_1 + 1)) t271 t272 t273 t274 t275 t276 t277) else (some false)) = some r := H
                      have A18 := Aside0.mk A180
                      clear A180
                      by_cases c19 : t270 = 0
                      · rw [if_pos c19] at H
                        have c19b0 : (t270 == 0) = true := beq_iff_eq.mpr c19
                        have c19b1 : (t270 != 0) = false := bne_eq_false_iff_eq.mpr c19
                        clear c19
                        have H' := Aside0.mk H
                        clear H
                        have p253 : 0 ≤ (x26_1 : Int) := of_decide_eq_true (by first | (with_reducible assumption) | assumption)
                        have q253 : x26_1 < (l2.length : Int) := of_decide_eq_true (by first | (with_reducible assumption) | assumption)
                        obtain ⟨ad253, e253, hx253_0⟩ := Kd.at_int HR2.out x26_1 p253 q253
                        cases e253
                        replace hx253_0 := (HB.out.cell (World.block_lt_of_cell? w _ hx253_0)).trans hx253_0
                        replace p253 := eq_true p253
                        replace q253 := eq_true q253
                        go_wp2_with (first | ((with_reducible refine gate_callee (f := 15) rfl ?_); refine goesL_ (some 35) rfl rfl Try.func15 (by kernel_rfl) rfl #[.pointer (some ⟨gb252, 0, none⟩), .int .i64 x9_1] rfl (by (try simp only [List.map_toArray, List.map_cons, List.map_nil]); first | done | rfl | (simp only [List.length_drop, List.length_take]; rfl)) ?_; (with_reducible refine (bucket_Bucket_Take.calls gb252 x253000_1 x253001_1 x253002_1 x253003_1 x253004_1 x253005_1 x253006_1 x9_1 true t255 t256 t257 t258 t259 t260 t261 w _ ?side1 ?side2 A14.out).mono ?_); (case side1 => repeat (first | (with_reducible first | exact HI252.out | apply IsS45.alloc | apply IsS45.drewN | apply IsS45.drew | apply IsS45.set_0 | apply IsS45.set_1 | apply IsS45.set_2 | apply IsS45.set_3 | apply IsS45.set_4 | apply IsS45.set_5 | apply IsS45.set_6) | exact HI252.out)); (case side2 => repeat (first | (with_reducible first | exact HB.out | apply below_alloc | apply pw_below_drewN | apply below_drew1 | refine below_set ?_ (IsS45.ge HI252.out)) | exact HB.out)); rintro e w20 ⟨rfl, hi, hb, hk⟩; refine ⟨_, rfl, ?_⟩; have n0_ := Aside0.mk (hb); have n1_ := Aside0.mk (hi); clear HB; clear HI252; have HB := n0_; have HI252 := n1_; clear n0_ n1_; (try clear hb); (try clear hb2); (try clear hk); (try clear hi)) | (go_at_call 16; (with_reducible refine (bucket_Bucket_Passed.calls gb252 t255 t256 t257 t258 t259 t260 t261 t262 t263 t264 t265 t266 t267 t268 t269 w _ ?side1 ?side2 A16.out).mono ?_); (case side1 => repeat (first | (with_reducible first | exact HI252.out | apply IsS45.alloc | apply IsS45.drewN | apply IsS45.drew | apply IsS45.set_0 | apply IsS45.set_1 | apply IsS45.set_2 | apply IsS45.set_3 | apply IsS45.set_4 | apply IsS45.set_5 | apply IsS45.set_6) | exact HI252.out)); (case side2 => repeat (first | (with_reducible first | exact HB.out | apply below_alloc | apply pw_below_drewN | apply below_drew1 | refine below_set ?_ (IsS45.ge HI252.out)) | exact HB.out)); rintro e w21 ⟨rfl, hi, hb, hk⟩; have n0_ := Aside0.mk (hb); have n1_ := Aside0.mk (hi); clear HB; clear HI252; have HB := n0_; have HI252 := n1_; clear n0_ n1_; (try clear hb); (try clear hb2); (try clear hk); (try clear hi)) | (go_at_call 17; (with_reducible refine (bucket_Bucket_Refused.calls gb252 t263 t264 t265 t266 t267 t268 t269 t270 t271 t272 t273 t274 t275 t276 t277 w _ ?side1 ?side2 A18.out).mono ?_); (case side1 => repeat (first | (with_reducible first | exact HI252.out | apply IsS45.alloc | apply IsS45.drewN | apply IsS45.drew | apply IsS45.set_0 | apply IsS45.set_1 | apply IsS45.set_2 | apply IsS45.set_3 | apply IsS45.set_4 | apply IsS45.set_5 | apply IsS45.set_6) | exact HI252.out)); (case side2 => repeat (first | (with_reducible first | exact HB.out | apply below_alloc | apply pw_below_drewN | apply below_drew1 | refine below_set ?_ (IsS45.ge HI252.out)) | exact HB.out)); rintro e w22 ⟨rfl, hi, hb, hk⟩; have n0_ := Aside0.mk (hb); have n1_ := Aside0.mk (hi); clear HB; clear HI252; have HB := n0_; have HI252 := n1_; clear n0_ n1_; (try clear hb); (try clear hb2); (try clear hk); (try clear hi)))
                        go_roundg k1
                        case measure => have := HK1.out; omega
                        case rel => exact ⟨(wrap64 (x9_1 + (wrap64 (a0 + (wrap64 (rd l2 x26_1)))))), (wrap64 (x26_1 + 1)), (t271), (t272), (t273), (t274), (t275), (t276), (t277), (by first | rfl | (simp; done) | (simp [*]; done)), (by first | rfl | (simp; done) | (simp [*]; done)), H', ⟨by have := HK1.out; omega⟩, ⟨by repeat (first | (with_reducible first | exact HI252.out | apply IsS45.alloc | apply IsS45.drewN | apply IsS45.drew | apply IsS45.set_0 | apply IsS45.set_1 | apply IsS45.set_2 | apply IsS45.set_3 | apply IsS45.set_4 | apply IsS45.set_5 | apply IsS45.set_6) | exact HI252.out)⟩, ⟨by repeat (first | (with_reducible first | exact HB.out | apply below_alloc | apply pw_below_drewN | apply below_drew1 | refine below_set ?_ (IsS45.ge HI252.out)) | exact HB.out)⟩⟩
                      · rw [if_neg c19] at H
                        have c19b0 : (t270 == 0) = false := beq_eq_false_iff_ne.mpr c19
                        have c19b1 : (t270 != 0) = true := bne_iff_ne.mpr c19
                        obtain rfl := Option.some.inj H
                        have p253 : 0 ≤ (x26_1 : Int) := of_decide_eq_true (by first | (with_reducible assumption) | assumption)
                        have q253 : x26_1 < (l2.length : Int) := of_decide_eq_true (by first | (with_reducible assumption) | assumption)
                        obtain ⟨ad253, e253, hx253_0⟩ := Kd.at_int HR2.out x26_1 p253 q253
                        cases e253
                        replace hx253_0 := (HB.out.cell (World.block_lt_of_cell? w _ hx253_0)).trans hx253_0
                        replace p253 := eq_true p253
                        replace q253 := eq_true q253
                        go_wp2_with (first | ((with_reducible refine gate_callee (f := 15) rfl ?_); refine goesL_ (some 35) rfl rfl Try.func15 (by kernel_rfl) rfl #[.pointer (some ⟨gb252, 0, none⟩), .int .i64 x9_1] rfl (by (try simp only [List.map_toArray, List.map_cons, List.map_nil]); first | done | rfl | (simp only [List.length_drop, List.length_take]; rfl)) ?_; (with_reducible refine (bucket_Bucket_Take.calls gb252 x253000_1 x253001_1 x253002_1 x253003_1 x253004_1 x253005_1 x253006_1 x9_1 true t255 t256 t257 t258 t259 t260 t261 w _ ?side1 ?side2 A14.out).mono ?_); (case side1 => repeat (first | (with_reducible first | exact HI252.out | apply IsS45.alloc | apply IsS45.drewN | apply IsS45.drew | apply IsS45.set_0 | apply IsS45.set_1 | apply IsS45.set_2 | apply IsS45.set_3 | apply IsS45.set_4 | apply IsS45.set_5 | apply IsS45.set_6) | exact HI252.out)); (case side2 => repeat (first | (with_reducible first | exact HB.out | apply below_alloc | apply pw_below_drewN | apply below_drew1 | refine below_set ?_ (IsS45.ge HI252.out)) | exact HB.out)); rintro e w23 ⟨rfl, hi, hb, hk⟩; refine ⟨_, rfl, ?_⟩; have n0_ := Aside0.mk (hb); have n1_ := Aside0.mk (hi); clear HB; clear HI252; have HB := n0_; have HI252 := n1_; clear n0_ n1_; (try clear hb); (try clear hb2); (try clear hk); (try clear hi)) | (go_at_call 16; (with_reducible refine (bucket_Bucket_Passed.calls gb252 t255 t256 t257 t258 t259 t260 t261 t262 t263 t264 t265 t266 t267 t268 t269 w _ ?side1 ?side2 A16.out).mono ?_); (case side1 => repeat (first | (with_reducible first | exact HI252.out | apply IsS45.alloc | apply IsS45.drewN | apply IsS45.drew | apply IsS45.set_0 | apply IsS45.set_1 | apply IsS45.set_2 | apply IsS45.set_3 | apply IsS45.set_4 | apply IsS45.set_5 | apply IsS45.set_6) | exact HI252.out)); (case side2 => repeat (first | (with_reducible first | exact HB.out | apply below_alloc | apply pw_below_drewN | apply below_drew1 | refine below_set ?_ (IsS45.ge HI252.out)) | exact HB.out)); rintro e w24 ⟨rfl, hi, hb, hk⟩; have n0_ := Aside0.mk (hb); have n1_ := Aside0.mk (hi); clear HB; clear HI252; have HB := n0_; have HI252 := n1_; clear n0_ n1_; (try clear hb); (try clear hb2); (try clear hk); (try clear hi)) | (go_at_call 17; (with_reducible refine (bucket_Bucket_Refused.calls gb252 t263 t264 t265 t266 t267 t268 t269 t270 t271 t272 t273 t274 t275 t276 t277 w _ ?side1 ?side2 A18.out).mono ?_); (case side1 => repeat (first | (with_reducible first | exact HI252.out | apply IsS45.alloc | apply IsS45.drewN | apply IsS45.drew | apply IsS45.set_0 | apply IsS45.set_1 | apply IsS45.set_2 | apply IsS45.set_3 | apply IsS45.set_4 | apply IsS45.set_5 | apply IsS45.set_6) | exact HI252.out)); (case side2 => repeat (first | (with_reducible first | exact HB.out | apply below_alloc | apply pw_below_drewN | apply below_drew1 | refine below_set ?_ (IsS45.ge HI252.out)) | exact HB.out)); rintro e w25 ⟨rfl, hi, hb, hk⟩; have n0_ := Aside0.mk (hb); have n1_ := Aside0.mk (hi); clear HB; clear HI252; have HB := n0_; have HI252 := n1_; clear n0_ n1_; (try clear hb); (try clear hb2); (try clear hk); (try clear hi)))
                        go_ret
                        exact ⟨by first | rfl | (simp [errW_none, errW_some] <;> rfl) | (simp [*, errW_none, errW_some] <;> rfl), by repeat (first | (with_reducible first | exact HB.out | apply below_alloc | apply pw_below_drewN | apply below_drew1 | refine below_set ?_ (IsS45.ge HI252.out)) | exact HB.out)⟩
                    · rw [if_neg c17] at H
                      have c17b0 : (t262 == (wrap64 (x26_1 + 1))) = false := beq_eq_false_iff_ne.mpr c17
                      have c17b1 : (t262 != (wrap64 (x26_1 + 1))) = true := bne_iff_ne.mpr c17
                      obtain rfl := Option.some.inj H
                      have p253 : 0 ≤ (x26_1 : Int) := of_decide_eq_true (by first | (with_reducible assumption) | assumption)
                      have q253 : x26_1 < (l2.length : Int) := of_decide_eq_true (by first | (with_reducible assumption) | assumption)
                      obtain ⟨ad253, e253, hx253_0⟩ := Kd.at_int HR2.out x26_1 p253 q253
                      cases e253
                      replace hx253_0 := (HB.out.cell (World.block_lt_of_cell? w _ hx253_0)).trans hx253_0
                      replace p253 := eq_true p253
                      replace q253 := eq_true q253
                      go_wp2_with (first | ((with_reducible refine gate_callee (f := 15) rfl ?_); refine goesL_ (some 35) rfl rfl Try.func15 (by kernel_rfl) rfl #[.pointer (some ⟨gb252, 0, none⟩), .int .i64 x9_1] rfl (by (try simp only [List.map_toArray, List.map_cons, List.map_nil]); first | done | rfl | (simp only [List.length_drop, List.length_take]; rfl)) ?_; (with_reducible refine (bucket_Bucket_Take.calls gb252 x253000_1 x253001_1 x253002_1 x253003_1 x253004_1 x253005_1 x253006_1 x9_1 true t255 t256 t257 t258 t259 t260 t261 w _ ?side1 ?side2 A14.out).mono ?_); (case side1 => repeat (first | (with_reducible first | exact HI252.out | apply IsS45.alloc | apply IsS45.drewN | apply IsS45.drew | apply IsS45.set_0 | apply IsS45.set_1 | apply IsS45.set_2 | apply IsS45.set_3 | apply IsS45.set_4 | apply IsS45.set_5 | apply IsS45.set_6) | exact HI252.out)); (case side2 => repeat (first | (with_reducible first | exact HB.out | apply below_alloc | apply pw_below_drewN | apply below_drew1 | refine below_set ?_ (IsS45.ge HI252.out)) | exact HB.out)); rintro e w26 ⟨rfl, hi, hb, hk⟩; refine ⟨_, rfl, ?_⟩; have n0_ := Aside0.mk (hb); have n1_ := Aside0.mk (hi); clear HB; clear HI252; have HB := n0_; have HI252 := n1_; clear n0_ n1_; (try clear hb); (try clear hb2); (try clear hk); (try clear hi)) | (go_at_call 16; (with_reducible refine (bucket_Bucket_Passed.calls gb252 t255 t256 t257 t258 t259 t260 t261 t262 t263 t264 t265 t266 t267 t268 t269 w _ ?side1 ?side2 A16.out).mono ?_); (case side1 => repeat (first | (with_reducible first | exact HI252.out | apply IsS45.alloc | apply IsS45.drewN | apply IsS45.drew | apply IsS45.set_0 | apply IsS45.set_1 | apply IsS45.set_2 | apply IsS45.set_3 | apply IsS45.set_4 | apply IsS45.set_5 | apply IsS45.set_6) | exact HI252.out)); (case side2 => repeat (first | (with_reducible first | exact HB.out | apply below_alloc | apply pw_below_drewN | apply below_drew1 | refine below_set ?_ (IsS45.ge HI252.out)) | exact HB.out)); rintro e w27 ⟨rfl, hi, hb, hk⟩; have n0_ := Aside0.mk (hb); have n1_ := Aside0.mk (hi); clear HB; clear HI252; have HB := n0_; have HI252 := n1_; clear n0_ n1_; (try clear hb); (try clear hb2); (try clear hk); (try clear hi)))
                      go_ret
                      exact ⟨by first | rfl | (simp [errW_none, errW_some] <;> rfl) | (simp [*, errW_none, errW_some] <;> rfl), by repeat (first | (with_reducible first | exact HB.out | apply below_alloc | apply pw_below_drewN | apply below_drew1 | refine below_set ?_ (IsS45.ge HI252.out)) | exact HB.out)⟩
                  · replace c15 := Bool.eq_false_iff.mpr c15
                    subst c15
                    have H1 : (some false) = some r := by rw [if_neg (show ¬ (false = true) by decide)] at H; exact H
                    clear H
                    have H := H1
                    clear H1
                    obtain rfl := Option.some.inj H
                    have p253 : 0 ≤ (x26_1 : Int) := of_decide_eq_true (by first | (with_reducible assumption) | assumption)
                    have q253 : x26_1 < (l2.length : Int) := of_decide_eq_true (by first | (with_reducible assumption) | assumption)
                    obtain ⟨ad253, e253, hx253_0⟩ := Kd.at_int HR2.out x26_1 p253 q253
                    cases e253
                    replace hx253_0 := (HB.out.cell (World.block_lt_of_cell? w _ hx253_0)).trans hx253_0
                    replace p253 := eq_true p253
                    replace q253 := eq_true q253
                    go_wp2_with (first | ((with_reducible refine gate_callee (f := 15) rfl ?_); refine goesL_ (some 35) rfl rfl Try.func15 (by kernel_rfl) rfl #[.pointer (some ⟨gb252, 0, none⟩), .int .i64 x9_1] rfl (by (try simp only [List.map_toArray, List.map_cons, List.map_nil]); first | done | rfl | (simp only [List.length_drop, List.length_take]; rfl)) ?_; (with_reducible refine (bucket_Bucket_Take.calls gb252 x253000_1 x253001_1 x253002_1 x253003_1 x253004_1 x253005_1 x253006_1 x9_1 false t255 t256 t257 t258 t259 t260 t261 w _ ?side1 ?side2 A14.out).mono ?_); (case side1 => repeat (first | (with_reducible first | exact HI252.out | apply IsS45.alloc | apply IsS45.drewN | apply IsS45.drew | apply IsS45.set_0 | apply IsS45.set_1 | apply IsS45.set_2 | apply IsS45.set_3 | apply IsS45.set_4 | apply IsS45.set_5 | apply IsS45.set_6) | exact HI252.out)); (case side2 => repeat (first | (with_reducible first | exact HB.out | apply below_alloc | apply pw_below_drewN | apply below_drew1 | refine below_set ?_ (IsS45.ge HI252.out)) | exact HB.out)); rintro e w28 ⟨rfl, hi, hb, hk⟩; refine ⟨_, rfl, ?_⟩; have n0_ := Aside0.mk (hb); have n1_ := Aside0.mk (hi); clear HB; clear HI252; have HB := n0_; have HI252 := n1_; clear n0_ n1_; (try clear hb); (try clear hb2); (try clear hk); (try clear hi)))
                    go_ret
                    exact ⟨by first | rfl | (simp [errW_none, errW_some] <;> rfl) | (simp [*, errW_none, errW_some] <;> rfl), by repeat (first | (with_reducible first | exact HB.out | apply below_alloc | apply pw_below_drewN | apply below_drew1 | refine below_set ?_ (IsS45.ge HI252.out)) | exact HB.out)⟩
              · rw [if_neg c12] at H
                exact absurd H (by simp)
            · rw [if_neg c11] at H
              exact absurd H (by simp)
          · rw [if_neg c10] at H
            have c10b0 : decide (x26_1 < (l2.length : Int)) = false := decide_eq_false c10
            clear c10
            obtain rfl := Option.some.inj H
            go_wp2
            go_ret
            exact ⟨by first | rfl | (simp [errW_none, errW_some] <;> rfl) | (simp [*, errW_none, errW_some] <;> rfl), by repeat (first | (with_reducible first | exact HB.out | apply below_alloc | apply pw_below_drewN | apply below_drew1 | refine below_set ?_ (IsS45.ge HI252.out)) | exact HB.out)⟩
    · replace c7 := Bool.eq_false_iff.mpr c7
      subst c7
      have H1 : (some true) = some r := by rw [if_neg (show ¬ (false = true) by decide)] at H; exact H
      clear H
      have H := H1
      clear H1
      obtain rfl := Option.some.inj H
      go_enter Try.func5, Try.ntmps5
      go_wp2_with (first | ((with_reducible refine gate_callee (f := 9) rfl ?_); refine goesL_ (some 12) rfl rfl Try.func9 (by kernel_rfl) rfl #[] rfl (by (try simp only [List.map_toArray, List.map_cons, List.map_nil]); first | done | rfl | (simp only [List.length_drop, List.length_take]; rfl)) ?_; (with_reducible refine (tocsinlaw14_fixed.calls  true _ A4.out).mono ?_); rintro e w29 ⟨rfl, hb⟩; refine ⟨_, rfl, ?_⟩; have n0_ := Aside0.mk (below_step (by repeat (first | (with_reducible first | exact HB.out | apply below_alloc | apply pw_below_drewN | apply below_drew1) | exact HB.out)) hb); clear HB; have HB := n0_; clear n0_; (try clear hb); (try clear hb2); (try clear hk); (try clear hi)) | (go_at_call 10; go_in) | ((with_reducible refine gate_callee (f := 20) rfl ?_); refine goesL_ (some 8) rfl rfl Try.func20 (by kernel_rfl) rfl #[.int .i64 a0, .int .i64 a1] rfl (by (try simp only [List.map_toArray, List.map_cons, List.map_nil]); first | done | rfl | (simp only [List.length_drop, List.length_take]; rfl)) ?_; (with_reducible refine (bucket_right.calls a0 a1 false _ A6.out).mono ?_); rintro e w' ⟨rfl, ⟨nd, rfl⟩⟩; refine ⟨_, rfl, ?_⟩))
      go_ret
      exact ⟨by first | rfl | (simp [errW_none, errW_some] <;> rfl) | (simp [*, errW_none, errW_some] <;> rfl), by repeat (first | (with_reducible first | exact HB.out | apply below_alloc | apply pw_below_drewN | apply below_drew1) | exact HB.out)⟩
  · replace c5 := Bool.eq_false_iff.mpr c5
    subst c5
    have H1 : (some false) = some r := by rw [if_neg (show ¬ (false = true) by decide)] at H; exact H
    clear H
    have H := H1
    clear H1
    obtain rfl := Option.some.inj H
    go_enter Try.func5, Try.ntmps5
    go_wp2_with (first | ((with_reducible refine gate_callee (f := 9) rfl ?_); refine goesL_ (some 12) rfl rfl Try.func9 (by kernel_rfl) rfl #[] rfl (by (try simp only [List.map_toArray, List.map_cons, List.map_nil]); first | done | rfl | (simp only [List.length_drop, List.length_take]; rfl)) ?_; (with_reducible refine (tocsinlaw14_fixed.calls  false _ A4.out).mono ?_); rintro e w30 ⟨rfl, hb⟩; refine ⟨_, rfl, ?_⟩; have n0_ := Aside0.mk (below_step (by repeat (first | (with_reducible first | exact HB.out | apply below_alloc | apply pw_below_drewN | apply below_drew1) | exact HB.out)) hb); clear HB; have HB := n0_; clear n0_; (try clear hb); (try clear hb2); (try clear hk); (try clear hi)))
    go_ret
    exact ⟨by first | rfl | (simp [errW_none, errW_some] <;> rfl) | (simp [*, errW_none, errW_some] <;> rfl), by repeat (first | (with_reducible first | exact HB.out | apply below_alloc | apply pw_below_drewN | apply below_drew1) | exact HB.out)⟩

/-- THE ONE PURE STATEMENT of tocsinlaw14_BucketFair: yours. -/
def tocsinlaw14_BucketFair.Pure : Prop := ∀ (a0 : Int) (a1 : Int) (l2 : List Int), (Lit.int .i64 a0).wf = true → (Lit.int .i64 a1).wf = true → l2.length ≤ maxLen → l2.length * 2 ≤ 140737488351232 → (∀ x ∈ l2, (Lit.int .u16 x).wf = true) → ∃ k, tocsinlaw14_BucketFair.f k a0 a1 l2 = some true
theorem tocsinlaw14_BucketFair.walk (P : tocsinlaw14_BucketFair.Pure) (a0 : Int) (a1 : Int) (a2 : Option Addr) (len2 cap2 : Nat) (z2 : List Int) (w : World) (w0 : (Lit.int .i64 a0).wf = true) (w1 : (Lit.int .i64 a1).wf = true) (w2 : (a2 = none ∧ len2 = 0 ∧ cap2 = 0 ∧ z2 = []) ∨ ∃ x, a2 = some x ∧ len2 ≤ cap2 ∧ cap2 ≤ maxLen ∧ z2.length = cap2 ∧ (∀ i, i < z2.length → w.cell? (x.add i) = some (.int .u16 (z2.getD i 0))) ∧ ∀ n ∈ z2, (Lit.int .u16 n).wf = true) (y2 : len2 * 2 ≤ 140737488351232) :
    Calls Try.prog 5 #[.int .i64 a0, .int .i64 a1, .slice a2 len2 cap2] w fun e w' => e = .returned (.bool true) ∧ Below w.heap.size w w' := by
  obtain ⟨l2, rfl, hr2, hm2, hw2, hc2⟩ := ReadsInt.ofRowC w2
  obtain ⟨k, h⟩ := P a0 a1 l2 w0 w1 hm2 y2 hw2
  refine (tocsinlaw14_BucketFair.calls k a0 a1 _ _ l2 true w (Kd.C_of_reads (d := (0 : Int)) (h1 := fun _ => rfl) hr2) hc2 h).mono ?_
  rintro e w' ⟨rfl, hd⟩
  exact ⟨rfl, hd⟩

/-! ### bucket_Bucket_Take_nil: function 15 of a nil pointer -/
def bucket_Bucket_Take_nil.f (a1 : Int) : Option (Bool) := some false
set_option maxHeartbeats 1000000 in
set_option maxRecDepth 100000 in
theorem bucket_Bucket_Take_nil.calls (a1 : Int) (r : Bool) (w : World) (h : bucket_Bucket_Take_nil.f a1 = some r) :
    Calls Try.prog 15 #[.pointer none, .int .i64 a1] w fun e w' => e = .returned (.bool r) ∧ Drawn0 w w' := by
  obtain rfl := Option.some.inj h
  go_enter Try.func15, Try.ntmps15
  go_wp2
  go_ret
  exact ⟨rfl, Drawn0.refl _⟩
/-! ### bucket_Bucket_Next_nil: function 12 of a nil pointer -/
def bucket_Bucket_Next_nil.f (a1 : Int) : Option (Int) := some 0
set_option maxHeartbeats 1000000 in
set_option maxRecDepth 100000 in
theorem bucket_Bucket_Next_nil.calls (a1 : Int) (r : Int) (w : World) (h : bucket_Bucket_Next_nil.f a1 = some r) :
    Calls Try.prog 12 #[.pointer none, .int .i64 a1] w fun e w' => e = .returned (.int .i64 r) ∧ Drawn0 w w' := by
  obtain rfl := Option.some.inj h
  go_enter Try.func12, Try.ntmps12
  go_wp2
  go_ret
  exact ⟨rfl, Drawn0.refl _⟩
/-! ### bucket_Bucket_Passed_nil: function 16 of a nil pointer -/
def bucket_Bucket_Passed_nil.f  : Option (Int) := some 0
set_option maxHeartbeats 1000000 in
set_option maxRecDepth 100000 in
theorem bucket_Bucket_Passed_nil.calls  (r : Int) (w : World) (h : bucket_Bucket_Passed_nil.f  = some r) :
    Calls Try.prog 16 #[.pointer none] w fun e w' => e = .returned (.int .i64 r) ∧ Drawn0 w w' := by
  obtain rfl := Option.some.inj h
  go_enter Try.func16, Try.ntmps16
  go_wp2
  go_ret
  exact ⟨rfl, Drawn0.refl _⟩
/-! ### bucket_Bucket_Refused_nil: function 17 of a nil pointer -/
def bucket_Bucket_Refused_nil.f  : Option (Int) := some 0
set_option maxHeartbeats 1000000 in
set_option maxRecDepth 100000 in
theorem bucket_Bucket_Refused_nil.calls  (r : Int) (w : World) (h : bucket_Bucket_Refused_nil.f  = some r) :
    Calls Try.prog 17 #[.pointer none] w fun e w' => e = .returned (.int .i64 r) ∧ Drawn0 w w' := by
  obtain rfl := Option.some.inj h
  go_enter Try.func17, Try.ntmps17
  go_wp2
  go_ret
  exact ⟨rfl, Drawn0.refl _⟩
end Go.Proofs.Ytpddklcfkjebgaa.PB
