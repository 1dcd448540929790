/- The functions that the law runs, each as a Lean function with its proof; written and laid together by a program for this claim. -/
import Derived.Test.YtgeheedfmdlefaaFrameSealedFns0
import Derived.Test.YtgeheedfmdlefaaFrameSealedFns1
section
namespace Go.Proofs.Ytgeheedfmdlefaa.PF
open Go.RowKit Go.Proofs.YtgeheedfmdlefaaW.PrintWords Go.Proofs.YtgeheedfmdlefaaW.PrintLast Go.Proofs.YtgeheedfmdlefaaW.PrintMore Go.Proofs.Ytgeheedfmdlefaa.Conv
attribute [local go_sem] max2_int min2_int max_two min_two max_three min_three max_four min_four   -- for this text's walks alone
set_option linter.unusedVariables false
set_option linter.unusedSimpArgs false

/-! ### rf_RightControl: function 13 -/
def rf_RightControl.f (a0_0 : Int) (a0_1 : Int) (a0_2 : Int) (a0_3 : Int) (a0_4 : Int) : Option (Bool) := if a0_0 = 1 then (if a0_1 ≥ 0 then (if a0_1 ≤ 7 then (if a0_2 ≥ 0 then (if a0_2 ≤ 1125899906842624 then (if a0_3 < 64 then (if a0_4 ≥ 0 then (some (decide (a0_4 ≤ 1048576))) else (some false)) else (some false)) else (some false)) else (some false)) else (some false)) else (some false)) else (if a0_0 = 2 then (if a0_1 ≥ 0 then (if a0_1 ≤ 7 then (if a0_2 ≥ 0 then (if a0_2 ≤ 1125899906842624 then (if a0_3 < 64 then (if a0_4 ≥ 0 then (some (decide (a0_4 ≤ 1048576))) else (some false)) else (some false)) else (some false)) else (some false)) else (some false)) else (some false)) else (some false))
set_option maxHeartbeats 8000000 in
set_option maxRecDepth 100000 in
theorem rf_RightControl.calls (a0_0 : Int) (a0_1 : Int) (a0_2 : Int) (a0_3 : Int) (a0_4 : Int) (r : Bool) (w : World) (h : rf_RightControl.f a0_0 a0_1 a0_2 a0_3 a0_4 = some r) :
  Calls Try.prog 13 #[.agg #[.int .i64 a0_0, .int .i64 a0_1, .int .i64 a0_2, .int .u32 a0_3, .int .i64 a0_4]] w fun e w' => e = .returned (.bool r) ∧ Below w.heap.size w w' := by
 have hu24 := Try.underlying24
 have HB := Azz.mk (Below.refl w.heap.size w)
 have H : (if a0_0 = 1 then (if a0_1 ≥ 0 then (if a0_1 ≤ 7 then (if a0_2 ≥ 0 then (if a0_2 ≤ 1125899906842624 then (if a0_3 < 64 then (if a0_4 ≥ 0 then (some (decide (a0_4 ≤ 1048576))) else (some false)) else (some false)) else (some false)) else (some false)) else (some false)) else (some false)) else (if a0_0 = 2 then (if a0_1 ≥ 0 then (if a0_1 ≤ 7 then (if a0_2 ≥ 0 then (if a0_2 ≤ 1125899906842624 then (if a0_3 < 64 then (if a0_4 ≥ 0 then (some (decide (a0_4 ≤ 1048576))) else (some false)) else (some false)) else (some false)) else (some false)) else (some false)) else (some false)) else (some false))) = some r := h
 clear h
 by_cases c2 : a0_0 = 1
 ·rw [if_pos c2] at H
  have c2b0 : (a0_0 == 1) = true := beq_iff_eq.mpr c2
  have c2b1 : (a0_0 != 1) = false := bne_eq_false_iff_eq.mpr c2
  clear c2
  by_cases c3 : a0_1 ≥ 0
  ·rw [if_pos c3] at H
   have c3b0 : decide (0 ≤ a0_1) = true := decide_eq_true c3
   clear c3
   by_cases c4 : a0_1 ≤ 7
   ·rw [if_pos c4] at H
    have c4b0 : decide (a0_1 ≤ 7) = true := decide_eq_true c4
    clear c4
    by_cases c5 : a0_2 ≥ 0
    ·rw [if_pos c5] at H
     have c5b0 : decide (0 ≤ a0_2) = true := decide_eq_true c5
     clear c5
     by_cases c6 : a0_2 ≤ 1125899906842624
     ·rw [if_pos c6] at H
      have c6b0 : decide (a0_2 ≤ 1125899906842624) = true := decide_eq_true c6
      clear c6
      by_cases c7 : a0_3 < 64
      ·rw [if_pos c7] at H
       have c7b0 : decide (a0_3 < 64) = true := decide_eq_true c7
       clear c7
       by_cases c8 : a0_4 ≥ 0
       ·rw [if_pos c8] at H
        have c8b0 : decide (0 ≤ a0_4) = true := decide_eq_true c8
        clear c8
        obtain rfl := Option.some.inj H
        go_enter Try.func13, Try.ntmps13
        go_wp2_with (first | ((with_reducible refine gate_dst (N := 1) rfl ?_); refine box_event ?hg (N := 1) ?hd (cs := #[.int .i64 a0_0, .int .i64 a0_1, .int .i64 a0_2, .int .u32 a0_3, .int .i64 a0_4]) (t := 24) ?hr ?_; (case hd => rfl); (case hg => rfl); (case hr => first | (go_simp; done) | (go_simp; rfl)); intro gb275 hg w9 hbox hb; have n0_ := Azz.mk (below_step (by repeat (first | (with_reducible first | exact HB.out | apply bal | apply pbN | apply bd1) | exact HB.out)) hb); have n1_ := Azz.mk (hbox); have n2_ := Azz.mk ((by rw [hg]; exact (below_size (by repeat (first | (with_reducible first | exact HB.out | apply bal | apply pbN | apply bd1) | exact HB.out))) : w.heap.size ≤ gb275)); have n3_ := Azz.mk ((by rw [hg]; exact (below_size (by repeat (first | (with_reducible first | exact HB.out | apply bal | apply pbN | apply bd1) | exact HB.out))) : w.heap.size ≤ gb275)); clear HB; have HB := n0_; have BK275 := n1_; have GW275 := n2_; have GE275 := n3_; clear n0_ n1_ n2_ n3_; clear hb hbox hg; have hcz10_0 : World.cell? _ ⟨gb275, 0, none⟩ = some (.int .i64 a0_0) := (kcl BK275.out 0).trans rfl; have hcz10_1 : World.cell? _ ⟨gb275, 1, none⟩ = some (.int .i64 a0_1) := (kcl BK275.out 1).trans rfl; have hcz10_2 : World.cell? _ ⟨gb275, 2, none⟩ = some (.int .i64 a0_2) := (kcl BK275.out 2).trans rfl; have hcz10_3 : World.cell? _ ⟨gb275, 3, none⟩ = some (.int .u32 a0_3) := (kcl BK275.out 3).trans rfl; have hcz10_4 : World.cell? _ ⟨gb275, 4, none⟩ = some (.int .i64 a0_4) := (kcl BK275.out 4).trans rfl; have hfz10_0 := kfz BK275.out 0; have hfz10_1 := kfz BK275.out 1; have hfz10_2 := kfz BK275.out 2; have hfz10_3 := kfz BK275.out 3; have hfz10_4 := kfz BK275.out 4))
        go_ret
        exact ⟨by first | rfl | (simp [errW_none, errW_some] <;> rfl) | (simp [*, errW_none, errW_some] <;> rfl), by repeat (first | (with_reducible first | exact HB.out | apply bal | apply pbN | apply bd1 | refine bst ?_ GE275.out) | exact HB.out)⟩
       ·rw [if_neg c8] at H
        have c8b0 : decide (0 ≤ a0_4) = false := decide_eq_false c8
        clear c8
        obtain rfl := Option.some.inj H
        go_enter Try.func13, Try.ntmps13
        go_wp2_with (first | ((with_reducible refine gate_dst (N := 1) rfl ?_); refine box_event ?hg (N := 1) ?hd (cs := #[.int .i64 a0_0, .int .i64 a0_1, .int .i64 a0_2, .int .u32 a0_3, .int .i64 a0_4]) (t := 24) ?hr ?_; (case hd => rfl); (case hg => rfl); (case hr => first | (go_simp; done) | (go_simp; rfl)); intro gb275 hg w11 hbox hb; have n0_ := Azz.mk (below_step (by repeat (first | (with_reducible first | exact HB.out | apply bal | apply pbN | apply bd1) | exact HB.out)) hb); have n1_ := Azz.mk (hbox); have n2_ := Azz.mk ((by rw [hg]; exact (below_size (by repeat (first | (with_reducible first | exact HB.out | apply bal | apply pbN | apply bd1) | exact HB.out))) : w.heap.size ≤ gb275)); have n3_ := Azz.mk ((by rw [hg]; exact (below_size (by repeat (first | (with_reducible first | exact HB.out | apply bal | apply pbN | apply bd1) | exact HB.out))) : w.heap.size ≤ gb275)); clear HB; have HB := n0_; have BK275 := n1_; have GW275 := n2_; have GE275 := n3_; clear n0_ n1_ n2_ n3_; clear hb hbox hg; have hcz12_0 : World.cell? _ ⟨gb275, 0, none⟩ = some (.int .i64 a0_0) := (kcl BK275.out 0).trans rfl; have hcz12_1 : World.cell? _ ⟨gb275, 1, none⟩ = some (.int .i64 a0_1) := (kcl BK275.out 1).trans rfl; have hcz12_2 : World.cell? _ ⟨gb275, 2, none⟩ = some (.int .i64 a0_2) := (kcl BK275.out 2).trans rfl; have hcz12_3 : World.cell? _ ⟨gb275, 3, none⟩ = some (.int .u32 a0_3) := (kcl BK275.out 3).trans rfl; have hcz12_4 : World.cell? _ ⟨gb275, 4, none⟩ = some (.int .i64 a0_4) := (kcl BK275.out 4).trans rfl; have hfz12_0 := kfz BK275.out 0; have hfz12_1 := kfz BK275.out 1; have hfz12_2 := kfz BK275.out 2; have hfz12_3 := kfz BK275.out 3; have hfz12_4 := kfz BK275.out 4))
        go_ret
        exact ⟨by first | rfl | (simp [errW_none, errW_some] <;> rfl) | (simp [*, errW_none, errW_some] <;> rfl), by repeat (first | (with_reducible first | exact HB.out | apply bal | apply pbN | apply bd1 | refine bst ?_ GE275.out) | exact HB.out)⟩
      ·rw [if_neg c7] at H
       have c7b0 : decide (a0_3 < 64) = false := decide_eq_false c7
       clear c7
       obtain rfl := Option.some.inj H
       go_enter Try.func13, Try.ntmps13
       go_wp2_with (first | ((with_reducible refine gate_dst (N := 1) rfl ?_); refine box_event ?hg (N := 1) ?hd (cs := #[.int .i64 a0_0, .int .i64 a0_1, .int .i64 a0_2, .int .u32 a0_3, .int .i64 a0_4]) (t := 24) ?hr ?_; (case hd => rfl); (case hg => rfl); (case hr => first | (go_simp; done) | (go_simp; rfl)); intro gb275 hg w13 hbox hb; have n0_ := Azz.mk (below_step (by repeat (first | (with_reducible first | exact HB.out | apply bal | apply pbN | apply bd1) | exact HB.out)) hb); have n1_ := Azz.mk (hbox); have n2_ := Azz.mk ((by rw [hg]; exact (below_size (by repeat (first | (with_reducible first | exact HB.out | apply bal | apply pbN | apply bd1) | exact HB.out))) : w.heap.size ≤ gb275)); have n3_ := Azz.mk ((by rw [hg]; exact (below_size (by repeat (first | (with_reducible first | exact HB.out | apply bal | apply pbN | apply bd1) | exact HB.out))) : w.heap.size ≤ gb275)); clear HB; have HB := n0_; have BK275 := n1_; have GW275 := n2_; have GE275 := n3_; clear n0_ n1_ n2_ n3_; clear hb hbox hg; have hcz14_0 : World.cell? _ ⟨gb275, 0, none⟩ = some (.int .i64 a0_0) := (kcl BK275.out 0).trans rfl; have hcz14_1 : World.cell? _ ⟨gb275, 1, none⟩ = some (.int .i64 a0_1) := (kcl BK275.out 1).trans rfl; have hcz14_2 : World.cell? _ ⟨gb275, 2, none⟩ = some (.int .i64 a0_2) := (kcl BK275.out 2).trans rfl; have hcz14_3 : World.cell? _ ⟨gb275, 3, none⟩ = some (.int .u32 a0_3) := (kcl BK275.out 3).trans rfl; have hcz14_4 : World.cell? _ ⟨gb275, 4, none⟩ = some (.int .i64 a0_4) := (kcl BK275.out 4).trans rfl; have hfz14_0 := kfz BK275.out 0; have hfz14_1 := kfz BK275.out 1; have hfz14_2 := kfz BK275.out 2; have hfz14_3 := kfz BK275.out 3; have hfz14_4 := kfz BK275.out 4))
       go_ret
       exact ⟨by first | rfl | (simp [errW_none, errW_some] <;> rfl) | (simp [*, errW_none, errW_some] <;> rfl), by repeat (first | (with_reducible first | exact HB.out | apply bal | apply pbN | apply bd1 | refine bst ?_ GE275.out) | exact HB.out)⟩
     ·rw [if_neg c6] at H
      have c6b0 : decide (a0_2 ≤ 1125899906842624) = false := decide_eq_false c6
      clear c6
      obtain rfl := Option.some.inj H
      go_enter Try.func13, Try.ntmps13
      go_wp2_with (first | ((with_reducible refine gate_dst (N := 1) rfl ?_); refine box_event ?hg (N := 1) ?hd (cs := #[.int .i64 a0_0, .int .i64 a0_1, .int .i64 a0_2, .int .u32 a0_3, .int .i64 a0_4]) (t := 24) ?hr ?_; (case hd => rfl); (case hg => rfl); (case hr => first | (go_simp; done) | (go_simp; rfl)); intro gb275 hg w15 hbox hb; have n0_ := Azz.mk (below_step (by repeat (first | (with_reducible first | exact HB.out | apply bal | apply pbN | apply bd1) | exact HB.out)) hb); have n1_ := Azz.mk (hbox); have n2_ := Azz.mk ((by rw [hg]; exact (below_size (by repeat (first | (with_reducible first | exact HB.out | apply bal | apply pbN | apply bd1) | exact HB.out))) : w.heap.size ≤ gb275)); have n3_ := Azz.mk ((by rw [hg]; exact (below_size (by repeat (first | (with_reducible first | exact HB.out | apply bal | apply pbN | apply bd1) | exact HB.out))) : w.heap.size ≤ gb275)); clear HB; have HB := n0_; have BK275 := n1_; have GW275 := n2_; have GE275 := n3_; clear n0_ n1_ n2_ n3_; clear hb hbox hg; have hcz16_0 : World.cell? _ ⟨gb275, 0, none⟩ = some (.int .i64 a0_0) := (kcl BK275.out 0).trans rfl; have hcz16_1 : World.cell? _ ⟨gb275, 1, none⟩ = some (.int .i64 a0_1) := (kcl BK275.out 1).trans rfl; have hcz16_2 : World.cell? _ ⟨gb275, 2, none⟩ = some (.int .i64 a0_2) := (kcl BK275.out 2).trans rfl; have hcz16_3 : World.cell? _ ⟨gb275, 3, none⟩ = some (.int .u32 a0_3) := (kcl BK275.out 3).trans rfl; have hcz16_4 : World.cell? _ ⟨gb275, 4, none⟩ = some (.int .i64 a0_4) := (kcl BK275.out 4).trans rfl; have hfz16_0 := kfz BK275.out 0; have hfz16_1 := kfz BK275.out 1; have hfz16_2 := kfz BK275.out 2; have hfz16_3 := kfz BK275.out 3; have hfz16_4 := kfz BK275.out 4))
      go_ret
      exact ⟨by first | rfl | (simp [errW_none, errW_some] <;> rfl) | (simp [*, errW_none, errW_some] <;> rfl), by repeat (first | (with_reducible first | exact HB.out | apply bal | apply pbN | apply bd1 | refine bst ?_ GE275.out) | exact HB.out)⟩
    ·rw [if_neg c5] at H
     have c5b0 : decide (0 ≤ a0_2) = false := decide_eq_false c5
     clear c5
     obtain rfl := Option.some.inj H
     go_enter Try.func13, Try.ntmps13
     go_wp2_with (first | ((with_reducible refine gate_dst (N := 1) rfl ?_); refine box_event ?hg (N := 1) ?hd (cs := #[.int .i64 a0_0, .int .i64 a0_1, .int .i64 a0_2, .int .u32 a0_3, .int .i64 a0_4]) (t := 24) ?hr ?_; (case hd => rfl); (case hg => rfl); (case hr => first | (go_simp; done) | (go_simp; rfl)); intro gb275 hg w17 hbox hb; have n0_ := Azz.mk (below_step (by repeat (first | (with_reducible first | exact HB.out | apply bal | apply pbN | apply bd1) | exact HB.out)) hb); have n1_ := Azz.mk (hbox); have n2_ := Azz.mk ((by rw [hg]; exact (below_size (by repeat (first | (with_reducible first | exact HB.out | apply bal | apply pbN | apply bd1) | exact HB.out))) : w.heap.size ≤ gb275)); have n3_ := Azz.mk ((by rw [hg]; exact (below_size (by repeat (first | (with_reducible first | exact HB.out | apply bal | apply pbN | apply bd1) | exact HB.out))) : w.heap.size ≤ gb275)); clear HB; have HB := n0_; have BK275 := n1_; have GW275 := n2_; have GE275 := n3_; clear n0_ n1_ n2_ n3_; clear hb hbox hg; have hcz18_0 : World.cell? _ ⟨gb275, 0, none⟩ = some (.int .i64 a0_0) := (kcl BK275.out 0).trans rfl; have hcz18_1 : World.cell? _ ⟨gb275, 1, none⟩ = some (.int .i64 a0_1) := (kcl BK275.out 1).trans rfl; have hcz18_2 : World.cell? _ ⟨gb275, 2, none⟩ = some (.int .i64 a0_2) := (kcl BK275.out 2).trans rfl; have hcz18_3 : World.cell? _ ⟨gb275, 3, none⟩ = some (.int .u32 a0_3) := (kcl BK275.out 3).trans rfl; have hcz18_4 : World.cell? _ ⟨gb275, 4, none⟩ = some (.int .i64 a0_4) := (kcl BK275.out 4).trans rfl; have hfz18_0 := kfz BK275.out 0; have hfz18_1 := kfz BK275.out 1; have hfz18_2 := kfz BK275.out 2; have hfz18_3 := kfz BK275.out 3; have hfz18_4 := kfz BK275.out 4))
     go_ret
     exact ⟨by first | rfl | (simp [errW_none, errW_some] <;> rfl) | (simp [*, errW_none, errW_some] <;> rfl), by repeat (first | (with_reducible first | exact HB.out | apply bal | apply pbN | apply bd1 | refine bst ?_ GE275.out) | exact HB.out)⟩
   ·rw [if_neg c4] at H
    have c4b0 : decide (a0_1 ≤ 7) = false := decide_eq_false c4
    clear c4
    obtain rfl := Option.some.inj H
    go_enter Try.func13, Try.ntmps13
    go_wp2_with (first | ((with_reducible refine gate_dst (N := 1) rfl ?_); refine box_event ?hg (N := 1) ?hd (cs := #[.int .i64 a0_0, .int .i64 a0_1, .int .i64 a0_2, .int .u32 a0_3, .int .i64 a0_4]) (t := 24) ?hr ?_; (case hd => rfl); (case hg => rfl); (case hr => first | (go_simp; done) | (go_simp; rfl)); intro gb275 hg w19 hbox hb; have n0_ := Azz.mk (below_step (by repeat (first | (with_reducible first | exact HB.out | apply bal | apply pbN | apply bd1) | exact HB.out)) hb); have n1_ := Azz.mk (hbox); have n2_ := Azz.mk ((by rw [hg]; exact (below_size (by repeat (first | (with_reducible first | exact HB.out | apply bal | apply pbN | apply bd1) | exact HB.out))) : w.heap.size ≤ gb275)); have n3_ := Azz.mk ((by rw [hg]; exact (below_size (by repeat (first | (with_reducible first | exact HB.out | apply bal | apply pbN | apply bd1) | exact HB.out))) : w.heap.size ≤ gb275)); clear HB; have HB := n0_; have BK275 := n1_; have GW275 := n2_; have GE275 := n3_; clear n0_ n1_ n2_ n3_; clear hb hbox hg; have hcz20_0 : World.cell? _ ⟨gb275, 0, none⟩ = some (.int .i64 a0_0) := (kcl BK275.out 0).trans rfl; have hcz20_1 : World.cell? _ ⟨gb275, 1, none⟩ = some (.int .i64 a0_1) := (kcl BK275.out 1).trans rfl; have hcz20_2 : World.cell? _ ⟨gb275, 2, none⟩ = some (.int .i64 a0_2) := (kcl BK275.out 2).trans rfl; have hcz20_3 : World.cell? _ ⟨gb275, 3, none⟩ = some (.int .u32 a0_3) := (kcl BK275.out 3).trans rfl; have hcz20_4 : World.cell? _ ⟨gb275, 4, none⟩ = some (.int .i64 a0_4) := (kcl BK275.out 4).trans rfl; have hfz20_0 := kfz BK275.out 0; have hfz20_1 := kfz BK275.out 1; have hfz20_2 := kfz BK275.out 2; have hfz20_3 := kfz BK275.out 3; have hfz20_4 := kfz BK275.out 4))
    go_ret
    exact ⟨by first | rfl | (simp [errW_none, errW_some] <;> rfl) | (simp [*, errW_none, errW_some] <;> rfl), by repeat (first | (with_reducible first | exact HB.out | apply bal | apply pbN | apply bd1 | refine bst ?_ GE275.out) | exact HB.out)⟩
  ·rw [if_neg c3] at H
   have c3b0 : decide (0 ≤ a0_1) = false := decide_eq_false c3
   clear c3
   obtain rfl := Option.some.inj H
   go_enter Try.func13, Try.ntmps13
   go_wp2_with (first | ((with_reducible refine gate_dst (N := 1) rfl ?_); refine box_event ?hg (N := 1) ?hd (cs := #[.int .i64 a0_0, .int .i64 a0_1, .int .i64 a0_2, .int .u32 a0_3, .int .i64 a0_4]) (t := 24) ?hr ?_; (case hd => rfl); (case hg => rfl); (case hr => first | (go_simp; done) | (go_simp; rfl)); intro gb275 hg w21 hbox hb; have n0_ := Azz.mk (below_step (by repeat (first | (with_reducible first | exact HB.out | apply bal | apply pbN | apply bd1) | exact HB.out)) hb); have n1_ := Azz.mk (hbox); have n2_ := Azz.mk ((by rw [hg]; exact (below_size (by repeat (first | (with_reducible first | exact HB.out | apply bal | apply pbN | apply bd1) | exact HB.out))) : w.heap.size ≤ gb275)); have n3_ := Azz.mk ((by rw [hg]; exact (below_size (by repeat (first | (with_reducible first | exact HB.out | apply bal | apply pbN | apply bd1) | exact HB.out))) : w.heap.size ≤ gb275)); clear HB; have HB := n0_; have BK275 := n1_; have GW275 := n2_; have GE275 := n3_; clear n0_ n1_ n2_ n3_; clear hb hbox hg; have hcz22_0 : World.cell? _ ⟨gb275, 0, none⟩ = some (.int .i64 a0_0) := (kcl BK275.out 0).trans rfl; have hcz22_1 : World.cell? _ ⟨gb275, 1, none⟩ = some (.int .i64 a0_1) := (kcl BK275.out 1).trans rfl; have hcz22_2 : World.cell? _ ⟨gb275, 2, none⟩ = some (.int .i64 a0_2) := (kcl BK275.out 2).trans rfl; have hcz22_3 : World.cell? _ ⟨gb275, 3, none⟩ = some (.int .u32 a0_3) := (kcl BK275.out 3).trans rfl; have hcz22_4 : World.cell? _ ⟨gb275, 4, none⟩ = some (.int .i64 a0_4) := (kcl BK275.out 4).trans rfl; have hfz22_0 := kfz BK275.out 0; have hfz22_1 := kfz BK275.out 1; have hfz22_2 := kfz BK275.out 2; have hfz22_3 := kfz BK275.out 3; have hfz22_4 := kfz BK275.out 4))
   go_ret
   exact ⟨by first | rfl | (simp [errW_none, errW_some] <;> rfl) | (simp [*, errW_none, errW_some] <;> rfl), by repeat (first | (with_reducible first | exact HB.out | apply bal | apply pbN | apply bd1 | refine bst ?_ GE275.out) | exact HB.out)⟩
 ·rw [if_neg c2] at H
  have c2b0 : (a0_0 == 1) = false := beq_eq_false_iff_ne.mpr c2
  have c2b1 : (a0_0 != 1) = true := bne_iff_ne.mpr c2
  by_cases c23 : a0_0 = 2
  ·rw [if_pos c23] at H
   have c23b0 : (a0_0 == 2) = true := beq_iff_eq.mpr c23
   have c23b1 : (a0_0 != 2) = false := bne_eq_false_iff_eq.mpr c23
   clear c23
   by_cases c24 : a0_1 ≥ 0
   ·rw [if_pos c24] at H
    have c24b0 : decide (0 ≤ a0_1) = true := decide_eq_true c24
    clear c24
    by_cases c25 : a0_1 ≤ 7
    ·rw [if_pos c25] at H
     have c25b0 : decide (a0_1 ≤ 7) = true := decide_eq_true c25
     clear c25
     by_cases c26 : a0_2 ≥ 0
     ·rw [if_pos c26] at H
      have c26b0 : decide (0 ≤ a0_2) = true := decide_eq_true c26
      clear c26
      by_cases c27 : a0_2 ≤ 1125899906842624
      ·rw [if_pos c27] at H
       have c27b0 : decide (a0_2 ≤ 1125899906842624) = true := decide_eq_true c27
       clear c27
       by_cases c28 : a0_3 < 64
       ·rw [if_pos c28] at H
        have c28b0 : decide (a0_3 < 64) = true := decide_eq_true c28
        clear c28
        by_cases c29 : a0_4 ≥ 0
        ·rw [if_pos c29] at H
         have c29b0 : decide (0 ≤ a0_4) = true := decide_eq_true c29
         clear c29
         obtain rfl := Option.some.inj H
         go_enter Try.func13, Try.ntmps13
         go_wp2_with (first | ((with_reducible refine gate_dst (N := 1) rfl ?_); refine box_event ?hg (N := 1) ?hd (cs := #[.int .i64 a0_0, .int .i64 a0_1, .int .i64 a0_2, .int .u32 a0_3, .int .i64 a0_4]) (t := 24) ?hr ?_; (case hd => rfl); (case hg => rfl); (case hr => first | (go_simp; done) | (go_simp; rfl)); intro gb275 hg w30 hbox hb; have n0_ := Azz.mk (below_step (by repeat (first | (with_reducible first | exact HB.out | apply bal | apply pbN | apply bd1) | exact HB.out)) hb); have n1_ := Azz.mk (hbox); have n2_ := Azz.mk ((by rw [hg]; exact (below_size (by repeat (first | (with_reducible first | exact HB.out | apply bal | apply pbN | apply bd1) | exact HB.out))) : w.heap.size ≤ gb275)); have n3_ := Azz.mk ((by rw [hg]; exact (below_size (by repeat (first | (with_reducible first | exact HB.out | apply bal | apply pbN | apply bd1) | exact HB.out))) : w.heap.size ≤ gb275)); clear HB; have HB := n0_; have BK275 := n1_; have GW275 := n2_; have GE275 := n3_; clear n0_ n1_ n2_ n3_; clear hb hbox hg; have hcz31_0 : World.cell? _ ⟨gb275, 0, none⟩ = some (.int .i64 a0_0) := (kcl BK275.out 0).trans rfl; have hcz31_1 : World.cell? _ ⟨gb275, 1, none⟩ = some (.int .i64 a0_1) := (kcl BK275.out 1).trans rfl; have hcz31_2 : World.cell? _ ⟨gb275, 2, none⟩ = some (.int .i64 a0_2) := (kcl BK275.out 2).trans rfl; have hcz31_3 : World.cell? _ ⟨gb275, 3, none⟩ = some (.int .u32 a0_3) := (kcl BK275.out 3).trans rfl; have hcz31_4 : World.cell? _ ⟨gb275, 4, none⟩ = some (.int .i64 a0_4) := (kcl BK275.out 4).trans rfl; have hfz31_0 := kfz BK275.out 0; have hfz31_1 := kfz BK275.out 1; have hfz31_2 := kfz BK275.out 2; have hfz31_3 := kfz BK275.out 3; have hfz31_4 := kfz BK275.out 4))
         go_ret
         exact ⟨by first | rfl | (simp [errW_none, errW_some] <;> rfl) | (simp [*, errW_none, errW_some] <;> rfl), by repeat (first | (with_reducible first | exact HB.out | apply bal | apply pbN | apply bd1 | refine bst ?_ GE275.out) | exact HB.out)⟩
        ·rw [if_neg c29] at H
         have c29b0 : decide (0 ≤ a0_4) = false := decide_eq_false c29
         clear c29
         obtain rfl := Option.some.inj H
         go_enter Try.func13, Try.ntmps13
         go_wp2_with (first | ((with_reducible refine gate_dst (N := 1) rfl ?_); refine box_event ?hg (N := 1) ?hd (cs := #[.int .i64 a0_0, .int .i64 a0_1, .int .i64 a0_2, .int .u32 a0_3, .int .i64 a0_4]) (t := 24) ?hr ?_; (case hd => rfl); (case hg => rfl); (case hr => first | (go_simp; done) | (go_simp; rfl)); intro gb275 hg w32 hbox hb; have n0_ := Azz.mk (below_step (by repeat (first | (with_reducible first | exact HB.out | apply bal | apply pbN | apply bd1) | exact HB.out)) hb); have n1_ := Azz.mk (hbox); have n2_ := Azz.mk ((by rw [hg]; exact (below_size (by repeat (first | (with_reducible first | exact HB.out | apply bal | apply pbN | apply bd1) | exact HB.out))) : w.heap.size ≤ gb275)); have n3_ := Azz.mk ((by rw [hg]; exact (below_size (by repeat (first | (with_reducible first | exact HB.out | apply bal | apply pbN | apply bd1) | exact HB.out))) : w.heap.size ≤ gb275)); clear HB; have HB := n0_; have BK275 := n1_; have GW275 := n2_; have GE275 := n3_; clear n0_ n1_ n2_ n3_; clear hb hbox hg; have hcz33_0 : World.cell? _ ⟨gb275, 0, none⟩ = some (.int .i64 a0_0) := (kcl BK275.out 0).trans rfl; have hcz33_1 : World.cell? _ ⟨gb275, 1, none⟩ = some (.int .i64 a0_1) := (kcl BK275.out 1).trans rfl; have hcz33_2 : World.cell? _ ⟨gb275, 2, none⟩ = some (.int .i64 a0_2) := (kcl BK275.out 2).trans rfl; have hcz33_3 : World.cell? _ ⟨gb275, 3, none⟩ = some (.int .u32 a0_3) := (kcl BK275.out 3).trans rfl; have hcz33_4 : World.cell? _ ⟨gb275, 4, none⟩ = some (.int .i64 a0_4) := (kcl BK275.out 4).trans rfl; have hfz33_0 := kfz BK275.out 0; have hfz33_1 := kfz BK275.out 1; have hfz33_2 := kfz BK275.out 2; have hfz33_3 := kfz BK275.out 3; have hfz33_4 := kfz BK275.out 4))
         go_ret
         exact ⟨by first | rfl | (simp [errW_none, errW_some] <;> rfl) | (simp [*, errW_none, errW_some] <;> rfl), by repeat (first | (with_reducible first | exact HB.out | apply bal | apply pbN | apply bd1 | refine bst ?_ GE275.out) | exact HB.out)⟩
       ·rw [if_neg c28] at H
        have c28b0 : decide (a0_3 < 64) = false := decide_eq_false c28
        clear c28
        obtain rfl := Option.some.inj H
        go_enter Try.func13, Try.ntmps13
        go_wp2_with (first | ((with_reducible refine gate_dst (N := 1) rfl ?_); refine box_event ?hg (N := 1) ?hd (cs := #[.int .i64 a0_0, .int .i64 a0_1, .int .i64 a0_2, .int .u32 a0_3, .int .i64 a0_4]) (t := 24) ?hr ?_; (case hd => rfl); (case hg => rfl); (case hr => first | (go_simp; done) | (go_simp; rfl)); intro gb275 hg w34 hbox hb; have n0_ := Azz.mk (below_step (by repeat (first | (with_reducible first | exact HB.out | apply bal | apply pbN | apply bd1) | exact HB.out)) hb); have n1_ := Azz.mk (hbox); have n2_ := Azz.mk ((by rw [hg]; exact (below_size (by repeat (first | (with_reducible first | exact HB.out | apply bal | apply pbN | apply bd1) | exact HB.out))) : w.heap.size ≤ gb275)); have n3_ := Azz.mk ((by rw [hg]; exact (below_size (by repeat (first | (with_reducible first | exact HB.out | apply bal | apply pbN | apply bd1) | exact HB.out))) : w.heap.size ≤ gb275)); clear HB; have HB := n0_; have BK275 := n1_; have GW275 := n2_; have GE275 := n3_; clear n0_ n1_ n2_ n3_; clear hb hbox hg; have hcz35_0 : World.cell? _ ⟨gb275, 0, none⟩ = some (.int .i64 a0_0) := (kcl BK275.out 0).trans rfl; have hcz35_1 : World.cell? _ ⟨gb275, 1, none⟩ = some (.int .i64 a0_1) := (kcl BK275.out 1).trans rfl; have hcz35_2 : World.cell? _ ⟨gb275, 2, none⟩ = some (.int .i64 a0_2) := (kcl BK275.out 2).trans rfl; have hcz35_3 : World.cell? _ ⟨gb275, 3, none⟩ = some (.int .u32 a0_3) := (kcl BK275.out 3).trans rfl; have hcz35_4 : World.cell? _ ⟨gb275, 4, none⟩ = some (.int .i64 a0_4) := (kcl BK275.out 4).trans rfl; have hfz35_0 := kfz BK275.out 0; have hfz35_1 := kfz BK275.out 1; have hfz35_2 := kfz BK275.out 2; have hfz35_3 := kfz BK275.out 3; have hfz35_4 := kfz BK275.out 4))
        go_ret
        exact ⟨by first | rfl | (simp [errW_none, errW_some] <;> rfl) | (simp [*, errW_none, errW_some] <;> rfl), by repeat (first | (with_reducible first | exact HB.out | apply bal | apply pbN | apply bd1 | refine bst ?_ GE275.out) | exact HB.out)⟩
      ·rw [if_neg c27] at H
       have c27b0 : decide (a0_2 ≤ 1125899906842624) = false := decide_eq_false c27
       clear c27
       obtain rfl := Option.some.inj H
       go_enter Try.func13, Try.ntmps13
       go_wp2_with (first | ((with_reducible refine gate_dst (N := 1) rfl ?_); refine box_event ?hg (N := 1) ?hd (cs := #[.int .i64 a0_0, .int .i64 a0_1, .int .i64 a0_2, .int .u32 a0_3, .int .i64 a0_4]) (t := 24) ?hr ?_; (case hd => rfl); (case hg => rfl); (case hr => first | (go_simp; done) | (go_simp; rfl)); intro gb275 hg w36 hbox hb; have n0_ := Azz.mk (below_step (by repeat (first | (with_reducible first | exact HB.out | apply bal | apply pbN | apply bd1) | exact HB.out)) hb); have n1_ := Azz.mk (hbox); have n2_ := Azz.mk ((by rw [hg]; exact (below_size (by repeat (first | (with_reducible first | exact HB.out | apply bal | apply pbN | apply bd1) | exact HB.out))) : w.heap.size ≤ gb275)); have n3_ := Azz.mk ((by rw [hg]; exact (below_size (by repeat (first | (with_reducible first | exact HB.out | apply bal | apply pbN | apply bd1) | exact HB.out))) : w.heap.size ≤ gb275)); clear HB; have HB := n0_; have BK275 := n1_; have GW275 := n2_; have GE275 := n3_; clear n0_ n1_ n2_ n3_; clear hb hbox hg; have hcz37_0 : World.cell? _ ⟨gb275, 0, none⟩ = some (.int .i64 a0_0) := (kcl BK275.out 0).trans rfl; have hcz37_1 : World.cell? _ ⟨gb275, 1, none⟩ = some (.int .i64 a0_1) := (kcl BK275.out 1).trans rfl; have hcz37_2 : World.cell? _ ⟨gb275, 2, none⟩ = some (.int .i64 a0_2) := (kcl BK275.out 2).trans rfl; have hcz37_3 : World.cell? _ ⟨gb275, 3, none⟩ = some (.int .u32 a0_3) := (kcl BK275.out 3).trans rfl; have hcz37_4 : World.cell? _ ⟨gb275, 4, none⟩ = some (.int .i64 a0_4) := (kcl BK275.out 4).trans rfl; have hfz37_0 := kfz BK275.out 0; have hfz37_1 := kfz BK275.out 1; have hfz37_2 := kfz BK275.out 2; have hfz37_3 := kfz BK275.out 3; have hfz37_4 := kfz BK275.out 4))
       go_ret
       exact ⟨by first | rfl | (simp [errW_none, errW_some] <;> rfl) | (simp [*, errW_none, errW_some] <;> rfl), by repeat (first | (with_reducible first | exact HB.out | apply bal | apply pbN | apply bd1 | refine bst ?_ GE275.out) | exact HB.out)⟩
     ·rw [if_neg c26] at H
      have c26b0 : decide (0 ≤ a0_2) = false := decide_eq_false c26
      clear c26
      obtain rfl := Option.some.inj H
      go_enter Try.func13, Try.ntmps13
      go_wp2_with (first | ((with_reducible refine gate_dst (N := 1) rfl ?_); refine box_event ?hg (N := 1) ?hd (cs := #[.int .i64 a0_0, .int .i64 a0_1, .int .i64 a0_2, .int .u32 a0_3, .int .i64 a0_4]) (t := 24) ?hr ?_; (case hd => rfl); (case hg => rfl); (case hr => first | (go_simp; done) | (go_simp; rfl)); intro gb275 hg w38 hbox hb; have n0_ := Azz.mk (below_step (by repeat (first | (with_reducible first | exact HB.out | apply bal | apply pbN | apply bd1) | exact HB.out)) hb); have n1_ := Azz.mk (hbox); have n2_ := Azz.mk ((by rw [hg]; exact (below_size (by repeat (first | (with_reducible first | exact HB.out | apply bal | apply pbN | apply bd1) | exact HB.out))) : w.heap.size ≤ gb275)); have n3_ := Azz.mk ((by rw [hg]; exact (below_size (by repeat (first | (with_reducible first | exact HB.out | apply bal | apply pbN | apply bd1) | exact HB.out))) : w.heap.size ≤ gb275)); clear HB; have HB := n0_; have BK275 := n1_; have GW275 := n2_; have GE275 := n3_; clear n0_ n1_ n2_ n3_; clear hb hbox hg; have hcz39_0 : World.cell? _ ⟨gb275, 0, none⟩ = some (.int .i64 a0_0) := (kcl BK275.out 0).trans rfl; have hcz39_1 : World.cell? _ ⟨gb275, 1, none⟩ = some (.int .i64 a0_1) := (kcl BK275.out 1).trans rfl; have hcz39_2 : World.cell? _ ⟨gb275, 2, none⟩ = some (.int .i64 a0_2) := (kcl BK275.out 2).trans rfl; have hcz39_3 : World.cell? _ ⟨gb275, 3, none⟩ = some (.int .u32 a0_3) := (kcl BK275.out 3).trans rfl; have hcz39_4 : World.cell? _ ⟨gb275, 4, none⟩ = some (.int .i64 a0_4) := (kcl BK275.out 4).trans rfl; have hfz39_0 := kfz BK275.out 0; have hfz39_1 := kfz BK275.out 1; have hfz39_2 := kfz BK275.out 2; have hfz39_3 := kfz BK275.out 3; have hfz39_4 := kfz BK275.out 4))
      go_ret
      exact ⟨by first | rfl | (simp [errW_none, errW_some] <;> rfl) | (simp [*, errW_none, errW_some] <;> rfl), by repeat (first | (with_reducible first | exact HB.out | apply bal | apply pbN | apply bd1 | refine bst ?_ GE275.out) | exact HB.out)⟩
    ·rw [if_neg c25] at H
     have c25b0 : decide (a0_1 ≤ 7) = false := decide_eq_false c25
     clear c25
     obtain rfl := Option.some.inj H
     go_enter Try.func13, Try.ntmps13
     go_wp2_with (first | ((with_reducible refine gate_dst (N := 1) rfl ?_); refine box_event ?hg (N := 1) ?hd (cs := #[.int .i64 a0_0, .int .i64 a0_1, .int .i64 a0_2, .int .u32 a0_3, .int .i64 a0_4]) (t := 24) ?hr ?_; (case hd => rfl); (case hg => rfl); (case hr => first | (go_simp; done) | (go_simp; rfl)); intro gb275 hg w40 hbox hb; have n0_ := Azz.mk (below_step (by repeat (first | (with_reducible first | exact HB.out | apply bal | apply pbN | apply bd1) | exact HB.out)) hb); have n1_ := Azz.mk (hbox); have n2_ := Azz.mk ((by rw [hg]; exact (below_size (by repeat (first | (with_reducible first | exact HB.out | apply bal | apply pbN | apply bd1) | exact HB.out))) : w.heap.size ≤ gb275)); have n3_ := Azz.mk ((by rw [hg]; exact (below_size (by repeat (first | (with_reducible first | exact HB.out | apply bal | apply pbN | apply bd1) | exact HB.out))) : w.heap.size ≤ gb275)); clear HB; have HB := n0_; have BK275 := n1_; have GW275 := n2_; have GE275 := n3_; clear n0_ n1_ n2_ n3_; clear hb hbox hg; have hcz41_0 : World.cell? _ ⟨gb275, 0, none⟩ = some (.int .i64 a0_0) := (kcl BK275.out 0).trans rfl; have hcz41_1 : World.cell? _ ⟨gb275, 1, none⟩ = some (.int .i64 a0_1) := (kcl BK275.out 1).trans rfl; have hcz41_2 : World.cell? _ ⟨gb275, 2, none⟩ = some (.int .i64 a0_2) := (kcl BK275.out 2).trans rfl; have hcz41_3 : World.cell? _ ⟨gb275, 3, none⟩ = some (.int .u32 a0_3) := (kcl BK275.out 3).trans rfl; have hcz41_4 : World.cell? _ ⟨gb275, 4, none⟩ = some (.int .i64 a0_4) := (kcl BK275.out 4).trans rfl; have hfz41_0 := kfz BK275.out 0; have hfz41_1 := kfz BK275.out 1; have hfz41_2 := kfz BK275.out 2; have hfz41_3 := kfz BK275.out 3; have hfz41_4 := kfz BK275.out 4))
     go_ret
     exact ⟨by first | rfl | (simp [errW_none, errW_some] <;> rfl) | (simp [*, errW_none, errW_some] <;> rfl), by repeat (first | (with_reducible first | exact HB.out | apply bal | apply pbN | apply bd1 | refine bst ?_ GE275.out) | exact HB.out)⟩
   ·rw [if_neg c24] at H
    have c24b0 : decide (0 ≤ a0_1) = false := decide_eq_false c24
    clear c24
    obtain rfl := Option.some.inj H
    go_enter Try.func13, Try.ntmps13
    go_wp2_with (first | ((with_reducible refine gate_dst (N := 1) rfl ?_); refine box_event ?hg (N := 1) ?hd (cs := #[.int .i64 a0_0, .int .i64 a0_1, .int .i64 a0_2, .int .u32 a0_3, .int .i64 a0_4]) (t := 24) ?hr ?_; (case hd => rfl); (case hg => rfl); (case hr => first | (go_simp; done) | (go_simp; rfl)); intro gb275 hg w42 hbox hb; have n0_ := Azz.mk (below_step (by repeat (first | (with_reducible first | exact HB.out | apply bal | apply pbN | apply bd1) | exact HB.out)) hb); have n1_ := Azz.mk (hbox); have n2_ := Azz.mk ((by rw [hg]; exact (below_size (by repeat (first | (with_reducible first | exact HB.out | apply bal | apply pbN | apply bd1) | exact HB.out))) : w.heap.size ≤ gb275)); have n3_ := Azz.mk ((by rw [hg]; exact (below_size (by repeat (first | (with_reducible first | exact HB.out | apply bal | apply pbN | apply bd1) | exact HB.out))) : w.heap.size ≤ gb275)); clear HB; have HB := n0_; have BK275 := n1_; have GW275 := n2_; have GE275 := n3_; clear n0_ n1_ n2_ n3_; clear hb hbox hg; have hcz43_0 : World.cell? _ ⟨gb275, 0, none⟩ = some (.int .i64 a0_0) := (kcl BK275.out 0).trans rfl; have hcz43_1 : World.cell? _ ⟨gb275, 1, none⟩ = some (.int .i64 a0_1) := (kcl BK275.out 1).trans rfl; have hcz43_2 : World.cell? _ ⟨gb275, 2, none⟩ = some (.int .i64 a0_2) := (kcl BK275.out 2).trans rfl; have hcz43_3 : World.cell? _ ⟨gb275, 3, none⟩ = some (.int .u32 a0_3) := (kcl BK275.out 3).trans rfl; have hcz43_4 : World.cell? _ ⟨gb275, 4, none⟩ = some (.int .i64 a0_4) := (kcl BK275.out 4).trans rfl; have hfz43_0 := kfz BK275.out 0; have hfz43_1 := kfz BK275.out 1; have hfz43_2 := kfz BK275.out 2; have hfz43_3 := kfz BK275.out 3; have hfz43_4 := kfz BK275.out 4))
    go_ret
    exact ⟨by first | rfl | (simp [errW_none, errW_some] <;> rfl) | (simp [*, errW_none, errW_some] <;> rfl), by repeat (first | (with_reducible first | exact HB.out | apply bal | apply pbN | apply bd1 | refine bst ?_ GE275.out) | exact HB.out)⟩
  ·rw [if_neg c23] at H
   have c23b0 : (a0_0 == 2) = false := beq_eq_false_iff_ne.mpr c23
   have c23b1 : (a0_0 != 2) = true := bne_iff_ne.mpr c23
   obtain rfl := Option.some.inj H
   go_enter Try.func13, Try.ntmps13
   go_wp2_with (first | ((with_reducible refine gate_dst (N := 1) rfl ?_); refine box_event ?hg (N := 1) ?hd (cs := #[.int .i64 a0_0, .int .i64 a0_1, .int .i64 a0_2, .int .u32 a0_3, .int .i64 a0_4]) (t := 24) ?hr ?_; (case hd => rfl); (case hg => rfl); (case hr => first | (go_simp; done) | (go_simp; rfl)); intro gb275 hg w44 hbox hb; have n0_ := Azz.mk (below_step (by repeat (first | (with_reducible first | exact HB.out | apply bal | apply pbN | apply bd1) | exact HB.out)) hb); have n1_ := Azz.mk (hbox); have n2_ := Azz.mk ((by rw [hg]; exact (below_size (by repeat (first | (with_reducible first | exact HB.out | apply bal | apply pbN | apply bd1) | exact HB.out))) : w.heap.size ≤ gb275)); have n3_ := Azz.mk ((by rw [hg]; exact (below_size (by repeat (first | (with_reducible first | exact HB.out | apply bal | apply pbN | apply bd1) | exact HB.out))) : w.heap.size ≤ gb275)); clear HB; have HB := n0_; have BK275 := n1_; have GW275 := n2_; have GE275 := n3_; clear n0_ n1_ n2_ n3_; clear hb hbox hg; have hcz45_0 : World.cell? _ ⟨gb275, 0, none⟩ = some (.int .i64 a0_0) := (kcl BK275.out 0).trans rfl; have hcz45_1 : World.cell? _ ⟨gb275, 1, none⟩ = some (.int .i64 a0_1) := (kcl BK275.out 1).trans rfl; have hcz45_2 : World.cell? _ ⟨gb275, 2, none⟩ = some (.int .i64 a0_2) := (kcl BK275.out 2).trans rfl; have hcz45_3 : World.cell? _ ⟨gb275, 3, none⟩ = some (.int .u32 a0_3) := (kcl BK275.out 3).trans rfl; have hcz45_4 : World.cell? _ ⟨gb275, 4, none⟩ = some (.int .i64 a0_4) := (kcl BK275.out 4).trans rfl; have hfz45_0 := kfz BK275.out 0; have hfz45_1 := kfz BK275.out 1; have hfz45_2 := kfz BK275.out 2; have hfz45_3 := kfz BK275.out 3; have hfz45_4 := kfz BK275.out 4))
   go_ret
   exact ⟨by first | rfl | (simp [errW_none, errW_some] <;> rfl) | (simp [*, errW_none, errW_some] <;> rfl), by repeat (first | (with_reducible first | exact HB.out | apply bal | apply pbN | apply bd1 | refine bst ?_ GE275.out) | exact HB.out)⟩

end Go.Proofs.Ytgeheedfmdlefaa.PF
end

section
namespace Go.Proofs.Ytgeheedfmdlefaa.PF
open Go.RowKit Go.Proofs.YtgeheedfmdlefaaW.PrintWords Go.Proofs.YtgeheedfmdlefaaW.PrintLast Go.Proofs.YtgeheedfmdlefaaW.PrintMore Go.Proofs.Ytgeheedfmdlefaa.Conv
attribute [local go_sem] max2_int min2_int max_two min_two max_three min_three max_four min_four   -- for this text's walks alone
set_option linter.unusedVariables false
set_option linter.unusedSimpArgs false

/-! ### rf_lay: function 32 -/
def rf_lay.l0 : Nat → List Int → List Int → Int → Option (List Int)
 | 0, _, _, _ => none
 | k + 1, x0, x1, x5 => if x5 < (x1.length : Int) then (if 0 ≤ x5 then (if x0.length < 140737488355328 then (rf_lay.l0 k (x0 ++ [rd x1 x5]) x1 (wrap64 (x5 + 1))) else (none)) else (none)) else (some x0)
def rf_lay.f (k : Nat) (l0 : List Int) (l1 : List Int) : Option (List Int) := rf_lay.l0 k l0 l1 0
theorem rf_lay.mono_l : ∀ k, (∀ y0 y1 y2, LeO (rf_lay.l0 k y0 y1 y2) (rf_lay.l0 (k + 1) y0 y1 y2))
 | 0 => fun _ _ _ r h => by simp [rf_lay.l0] at h
 | k + 1 => by
  have ih0 := rf_lay.mono_l k
  ·intro y0 y1 y2
   unfold rf_lay.l0
   repeat' first
   | (with_reducible exact ih0 _ _ _)
   | (with_reducible exact LeO.refl _)
   | (with_reducible exact LeO.none _)
   | (with_reducible refine LeO.ite ?_ ?_)
   | (with_reducible refine LeO.bind ?_ (fun _ => ?_))
   | exact ih0 _ _ _
   | exact LeO.none _
   | refine LeO.ite ?_ ?_
   | refine LeO.bind ?_ (fun _ => ?_)
theorem rf_lay.mono : ∀ a0 a1 k, LeO (rf_lay.f k a0 a1) (rf_lay.f (k + 1) a0 a1) := by
 intro a0 a1 k
 have ih0 := rf_lay.mono_l k
 unfold rf_lay.f
 repeat' first
   | (with_reducible exact ih0 _ _ _)
   | (with_reducible exact LeO.refl _)
   | (with_reducible exact LeO.none _)
   | (with_reducible refine LeO.ite ?_ ?_)
   | (with_reducible refine LeO.bind ?_ (fun _ => ?_))
   | exact ih0 _ _ _
   | exact LeO.none _
   | refine LeO.ite ?_ ?_
   | refine LeO.bind ?_ (fun _ => ?_)
set_option maxHeartbeats 8000000 in
set_option maxRecDepth 100000 in
theorem rf_lay.calls (k : Nat) (P0_ : Nat → Prop) (u9000_ : Value) (l0 : List Int) (A1 : Option Addr) (c1 : Nat) (l1 : List Int) (r : List Int) (w0 w : World) (hB : Below w0.heap.size w0 w) (ho0 : Kd.R (Kd.int .u8) 5 w w0.heap.size P0_ u9000_ l0) (hr1 : ∀ W_, Kept w W_ (fun k_ => P0_ k_) → Kd.C (Kd.int .u8) W_ A1 l1.length l1) (hc1 : l1.length ≤ c1) (h : rf_lay.f k l0 l1 = some r) :
  Calls Try.prog 32 #[u9000_, .slice A1 l1.length c1] w fun e w' => ∃ v0_ : Value, e = .returned (v0_) ∧ Kd.R (Kd.int .u8) 5 w' w0.heap.size (fun k_ => (P0_ k_ ∨ w.heap.size ≤ k_)) v0_ r ∧ Below w0.heap.size w0 w' ∧ Kept w w' (fun k_ => P0_ k_) := by
 have HO0 := Azz.mk (show Kd.R (Kd.int .u8) 5 w w0.heap.size (fun k_ => (P0_ k_ ∨ w.heap.size ≤ k_)) u9000_ l0 from Kd.R_mono ho0 (fun k_ hk => (.inl hk)))
 have HR1 := Azz.mk hr1
 have HC1 := Azz.mk hc1
 clear hr1 hc1
 have HK := Azz.mk (Kept.refl w (fun k_ => P0_ k_))
 have HW0 := Azz.mk hB.size
 have HB := Azz.mk hB
 clear hB
 have H : (rf_lay.l0 k l0 l1 0) = some r := h
 clear h
 have H' := Azz.mk H
 clear H
 go_enter Try.func32, Try.ntmps32
 go_wp2
 go_loopg [0, 5] k (fun kq v0 v5 w' => ∃ (x0_1 : List Int) (x5_1 : Int), v5 = .int .i64 x5_1 ∧ Azz (rf_lay.l0 kq x0_1 l1 x5_1 = some r) ∧ Azz (kq ≤ k) ∧ Azz (Kd.R (Kd.int .u8) 5 w' w0.heap.size (fun k_ => (P0_ k_ ∨ w.heap.size ≤ k_)) v0 x0_1) ∧ Azz (Kept w w' (fun k_ => P0_ k_)) ∧ Azz (Below w0.heap.size w0 w'))
 case atStart => exact ⟨(l0), (0), (by first | rfl | (simp; done) | (simp [*]; done)), H', ⟨Nat.le_refl _⟩, ⟨by (with_reducible repeat (first | apply Kd.R_alloc | apply Kd.R_drewN | apply Kd.R_drew)); exact HO0.out⟩, ⟨by repeat (first | (with_reducible first | exact HK.out | apply Kept.alloc | apply Kept.drewN | apply Kept.drew) | exact HK.out)⟩, ⟨by repeat (first | (with_reducible first | exact HB.out | apply bal | apply pbN | apply bd1) | exact HB.out)⟩⟩
 case round =>
  clear H'
  try clear c1
  try clear p2
  obtain ⟨x0_1, x5_1, rfl, HA, HK1, HO_0, HK, HB⟩ := hrel
  cases gk with
  | zero => exact absurd HA.out (by simp [rf_lay.l0])
  | succ k1 =>
   have H := HA.out
   clear HA
   simp only [rf_lay.l0] at H
   by_cases c3 : x5_1 < (l1.length : Int)
   ·rw [if_pos c3] at H
    have c3b0 : decide (x5_1 < (l1.length : Int)) = true := decide_eq_true c3
    clear c3
    by_cases c4 : 0 ≤ x5_1
    ·rw [if_pos c4] at H
     have c4b0 : decide (0 ≤ x5_1) = true := decide_eq_true c4
     clear c4
     by_cases c5 : x0_1.length < 140737488355328
     ·rw [if_pos c5] at H
      have LMc5 := Azz.mk c5
      clear c5
      obtain ⟨y278, hy278⟩ : ∃ y_ : List Int, y_ = (x0_1 ++ [rd l1 x5_1]) := ⟨_, rfl⟩
      replace H : (rf_lay.l0 k1 y278 l1 (wrap64 (x5_1 + 1))) = some r := by first | (rw [hy278]; with_reducible exact H) | (have H2_ := (Option.bind_some _ _).symm.trans H; rw [hy278]; with_reducible exact H2_) | (have H2_ := (Option.bind_some _ _).symm.trans H; with_reducible exact H2_) | with_reducible exact H | (rw [hy278]; exact H) | exact H
      have Ny278 := Azz.mk hy278
      clear hy278
      have H' := Azz.mk H
      clear H
      have p277 : 0 ≤ (x5_1 : Int) := of_decide_eq_true (by first | (with_reducible assumption) | assumption)
      have q277 : x5_1 < (l1.length : Int) := of_decide_eq_true (by first | (with_reducible assumption) | assumption)
      obtain ⟨ad277, e277, hx277_0⟩ := Kd.at_int (Kd.C_kept_now HR1.out HK.out) x5_1 p277 q277
      cases e277
      replace p277 := eq_true p277
      replace q277 := eq_true q277
      go_wp2_with (first | ((with_reducible refine gate_builtin (b := .append) (xs := #[.tmp 12, .tmp 17]) rfl ?_); at_builtin; refine Kd.R_append (Kd.int .u8) (w0 := w0) w0.heap.size rfl (.tmp 12) (.tmp 17) 26 5 (.int .u8 0) 1 rfl Try.underlying26 info5 rfl (by decide) (by omega) u0 x0_1 (rd l1 x5_1) [.int .u8 (rd l1 x5_1)] (fun k_ => (P0_ k_ ∨ w.heap.size ≤ k_)) (fun _ => False) rfl rfl ?aP (fun _ hk => hk.elim) ?aF ?aO ?aB ?aS ?aL ?_; (case aP => exact rfl); (case aB => exact (by repeat (first | (with_reducible first | exact HB.out | apply bal | apply pbN | apply bd1) | exact HB.out))); (case aF => exact (fun k_ hk => (.inr (Nat.le_trans (by first | exact HK.out.1 | exact (show Kept w _ (fun k_ => P0_ k_) from by repeat (first | (with_reducible first | exact HK.out | apply Kept.alloc | apply Kept.drewN | apply Kept.drew) | exact HK.out)).1) hk)))); (case aO => exact (by (with_reducible repeat (first | apply Kd.R_alloc | apply Kd.R_drewN | apply Kd.R_drew)); exact HO_0.out)); (case aS => exact (below_size (by repeat (first | (with_reducible first | exact HB.out | apply bal | apply pbN | apply bd1) | exact HB.out)))); (case aL => have := LMc5.out; omega); intro v279 w6 ho hb hg hat; rw [← Ny278.out] at ho; have n0_ := Azz.mk (hb); have n1_ := Azz.mk (Kept.of_grown (S := (fun k_ => P0_ k_)) hg (by repeat (first | (with_reducible first | exact HK.out | apply Kept.alloc | apply Kept.drewN | apply Kept.drew) | exact HK.out)) (fun k_ e_ => (HO_0.out.1 k_ e_))); have n2_ := Azz.mk (ho); clear HB; clear HK; clear HO_0; have HB := n0_; have HK := n1_; have HO280 := n2_; clear n0_ n1_ n2_; clear ho hb hg hat))
      go_roundg k1
      case measure => have := HK1.out; omega
      case rel => exact ⟨(y278), (wrap64 (x5_1 + 1)), (by first | rfl | (simp; done) | (simp [*]; done)), H', ⟨by have := HK1.out; omega⟩, ⟨by (with_reducible repeat (first | apply Kd.R_alloc | apply Kd.R_drewN | apply Kd.R_drew)); exact HO280.out⟩, ⟨by repeat (first | (with_reducible first | exact HK.out | apply Kept.alloc | apply Kept.drewN | apply Kept.drew) | exact HK.out)⟩, ⟨by repeat (first | (with_reducible first | exact HB.out | apply bal | apply pbN | apply bd1) | exact HB.out)⟩⟩
     ·rw [if_neg c5] at H
      exact absurd H (by simp)
    ·rw [if_neg c4] at H
     exact absurd H (by simp)
   ·rw [if_neg c3] at H
    have c3b0 : decide (x5_1 < (l1.length : Int)) = false := decide_eq_false c3
    clear c3
    obtain rfl := Option.some.inj H
    go_wp2
    go_ret
    exact ⟨_, by first | rfl | (simp [errW_none, errW_some] <;> rfl) | (simp [*, errW_none, errW_some] <;> rfl), by (with_reducible repeat (first | apply Kd.R_alloc | apply Kd.R_drewN | apply Kd.R_drew)); exact HO_0.out, by repeat (first | (with_reducible first | exact HB.out | apply bal | apply pbN | apply bd1) | exact HB.out), by repeat (first | (with_reducible first | exact HK.out | apply Kept.alloc | apply Kept.drewN | apply Kept.drew) | exact HK.out)⟩

end Go.Proofs.Ytgeheedfmdlefaa.PF
end

section
namespace Go.Proofs.Ytgeheedfmdlefaa.PF
open Go.RowKit Go.Proofs.YtgeheedfmdlefaaW.PrintWords Go.Proofs.YtgeheedfmdlefaaW.PrintLast Go.Proofs.YtgeheedfmdlefaaW.PrintMore Go.Proofs.Ytgeheedfmdlefaa.Conv
attribute [local go_sem] max2_int min2_int max_two min_two max_three min_three max_four min_four   -- for this text's walks alone
set_option linter.unusedVariables false
set_option linter.unusedSimpArgs false

/-! ### rf_number: function 33 -/
def rf_number.l0 : Nat → Int → List Int → Int → Option (List Int)
 | 0, _, _, _ => none
 | k + 1, x0, x5, x6 => if x6 ≥ 0 then (if 0 ≤ x6 then (if x6 < (x5.length : Int) then (rf_number.l0 k (IntKind.u64.wrap (Int.tdiv x0 256)) (x5.set (x6 : Int).toNat ((Int.tmod x0 256) % 256)) (wrap64 (x6 - 1))) else (none)) else (none)) else (some x5)
def rf_number.f (k : Nat) (a0 : Int) (a1 : Int) : Option (List Int) := if 0 ≤ a1 then (if (a1 : Int).toNat ≤ 281474976710656 then (rf_number.l0 k a0 (List.replicate (a1 : Int).toNat 0) (wrap64 (a1 - 1))) else (none)) else (none)
theorem rf_number.mono_l : ∀ k, (∀ y0 y1 y2, LeO (rf_number.l0 k y0 y1 y2) (rf_number.l0 (k + 1) y0 y1 y2))
 | 0 => fun _ _ _ r h => by simp [rf_number.l0] at h
 | k + 1 => by
  have ih0 := rf_number.mono_l k
  ·intro y0 y1 y2
   unfold rf_number.l0
   repeat' first
   | (with_reducible exact ih0 _ _ _)
   | (with_reducible exact LeO.refl _)
   | (with_reducible exact LeO.none _)
   | (with_reducible refine LeO.ite ?_ ?_)
   | (with_reducible refine LeO.bind ?_ (fun _ => ?_))
   | exact ih0 _ _ _
   | exact LeO.none _
   | refine LeO.ite ?_ ?_
   | refine LeO.bind ?_ (fun _ => ?_)
theorem rf_number.mono : ∀ a0 a1 k, LeO (rf_number.f k a0 a1) (rf_number.f (k + 1) a0 a1) := by
 intro a0 a1 k
 have ih0 := rf_number.mono_l k
 unfold rf_number.f
 repeat' first
   | (with_reducible exact ih0 _ _ _)
   | (with_reducible exact LeO.refl _)
   | (with_reducible exact LeO.none _)
   | (with_reducible refine LeO.ite ?_ ?_)
   | (with_reducible refine LeO.bind ?_ (fun _ => ?_))
   | exact ih0 _ _ _
   | exact LeO.none _
   | refine LeO.ite ?_ ?_
   | refine LeO.bind ?_ (fun _ => ?_)
set_option maxHeartbeats 8000000 in
set_option maxRecDepth 100000 in
theorem rf_number.calls (k : Nat) (a0 : Int) (a1 : Int) (r : List Int) (w : World) (h : rf_number.f k a0 a1 = some r) :
  Calls Try.prog 33 #[.int .u64 a0, .int .i64 a1] w fun e w' => ∃ v0_ : Value, e = .returned (v0_) ∧ Kd.R (Kd.int .u8) 5 w' w.heap.size (fun _ => True) v0_ r ∧ Below w.heap.size w w' := by
 have HB := Azz.mk (Below.refl w.heap.size w)
 have H : (if 0 ≤ a1 then (if (a1 : Int).toNat ≤ 281474976710656 then (rf_number.l0 k a0 (List.replicate (a1 : Int).toNat 0) (wrap64 (a1 - 1))) else (none)) else (none)) = some r := h
 clear h
 by_cases c3 : 0 ≤ a1
 ·rw [if_pos c3] at H
  have c3b0 := eq_true c3
  have c3b1 : decide (0 ≤ a1) = true := decide_eq_true c3
  clear c3
  by_cases c4 : (a1 : Int).toNat ≤ 281474976710656
  ·rw [if_pos c4] at H
   have c4b0 := eq_true c4
   have c4b1 : decide ((a1 : Int).toNat ≤ 281474976710656) = true := decide_eq_true c4
   clear c4
   obtain ⟨y281, hy281⟩ : ∃ y_ : List Int, y_ = (List.replicate (a1 : Int).toNat 0) := ⟨_, rfl⟩
   replace H : (rf_number.l0 k a0 y281 (wrap64 (a1 - 1))) = some r := by first | (rw [hy281]; with_reducible exact H) | (have H2_ := (Option.bind_some _ _).symm.trans H; rw [hy281]; with_reducible exact H2_) | (have H2_ := (Option.bind_some _ _).symm.trans H; with_reducible exact H2_) | with_reducible exact H | (rw [hy281]; exact H) | exact H
   have Ny281 := Azz.mk hy281
   clear hy281
   have H' := Azz.mk H
   clear H
   go_enter Try.func33, Try.ntmps33
   go_wp2_with (first | ((with_reducible refine gate_dst (N := 8) rfl ?_); refine Kd.R_make (Kd.int .u8) _ 5 rfl (N := 8) rfl 26 _ _ rfl a1 rfl rfl Try.underlying26 (.int .u8 0) 1 info5 rfl (by decide) (by omega) 0 (ok := fun _ => True) (okp := fun _ => True) rfl (fun _ hk => hk) trivial (of_decide_eq_true (by first | (with_reducible assumption) | assumption)) (Nat.le_trans (Nat.mul_le_mul_right _ (of_decide_eq_true (by first | (with_reducible assumption) | assumption) : a1.toNat ≤ 281474976710656)) (by omega)) (Below.refl _ _) (Nat.le_refl _) ?_; intro v282 w5 ho6 hb hg_ hnew_; clear hg_ hnew_; (first | rw [← Ny281.out] at ho6 | (simp only [Int.reduceToNat] at ho6; rw [← Ny281.out] at ho6)); have n0_ := Azz.mk (Kd.R_lower ho6 (below_size (by repeat (first | (with_reducible first | exact HB.out | apply bal | apply pbN | apply bd1) | exact HB.out)))); have n1_ := Azz.mk (below_step (by repeat (first | (with_reducible first | exact HB.out | apply bal | apply pbN | apply bd1) | exact HB.out)) hb); clear HB; have HO283 := n0_; have HB := n1_; clear n0_ n1_; clear hb ho6))
   go_loopg [0, 6] k (fun kq v0 v6 w' => ∃ (x0_1 : Int) (x5_1 : List Int) (x6_1 : Int), v0 = .int .u64 x0_1 ∧ v6 = .int .i64 x6_1 ∧ Azz (rf_number.l0 kq x0_1 x5_1 x6_1 = some r) ∧ Azz (kq ≤ k) ∧ Azz (Kd.R (Kd.int .u8) 5 w' w.heap.size (fun _ => True) v282 x5_1) ∧ Azz (Below w.heap.size w w'))
   case atStart => exact ⟨(a0), (y281), (wrap64 (a1 - 1)), (by first | rfl | (simp; done) | (simp [*]; done)), (by first | rfl | (simp; done) | (simp [*]; done)), H', ⟨Nat.le_refl _⟩, ⟨by (with_reducible repeat (first | apply Kd.R_alloc | apply Kd.R_drewN | apply Kd.R_drew)); exact HO283.out⟩, ⟨by repeat (first | (with_reducible first | exact HB.out | apply bal | apply pbN | apply bd1) | exact HB.out)⟩⟩
   case round =>
    clear H'
    try clear p2
    try clear c3
    try clear c3b0
    try clear c3b1
    try clear c4
    try clear c4b0
    try clear c4b1
    try clear p6
    obtain ⟨x0_1, x5_1, x6_1, rfl, rfl, HA, HK1, HO_5, HB⟩ := hrel
    cases gk with
    | zero => exact absurd HA.out (by simp [rf_number.l0])
    | succ k1 =>
     have H := HA.out
     clear HA
     simp only [rf_number.l0] at H
     by_cases c7 : x6_1 ≥ 0
     ·rw [if_pos c7] at H
      have c7b0 : decide (0 ≤ x6_1) = true := decide_eq_true c7
      clear c7
      by_cases c8 : 0 ≤ x6_1
      ·rw [if_pos c8] at H
       have c8b0 : decide (0 ≤ x6_1) = true := decide_eq_true c8
       clear c8
       by_cases c9 : x6_1 < (x5_1.length : Int)
       ·rw [if_pos c9] at H
        have c9b0 : decide (x6_1 < (x5_1.length : Int)) = true := decide_eq_true c9
        clear c9
        obtain ⟨y284, hy284⟩ : ∃ y_ : List Int, y_ = (x5_1.set (x6_1 : Int).toNat ((Int.tmod x0_1 256) % 256)) := ⟨_, rfl⟩
        replace H : (rf_number.l0 k1 (IntKind.u64.wrap (Int.tdiv x0_1 256)) y284 (wrap64 (x6_1 - 1))) = some r := by first | (rw [hy284]; with_reducible exact H) | (have H2_ := (Option.bind_some _ _).symm.trans H; rw [hy284]; with_reducible exact H2_) | (have H2_ := (Option.bind_some _ _).symm.trans H; with_reducible exact H2_) | with_reducible exact H | (rw [hy284]; exact H) | exact H
        have Ny284 := Azz.mk hy284
        clear hy284
        have H' := Azz.mk H
        clear H
        have p10 : 0 ≤ (x6_1 : Int) := of_decide_eq_true (by first | (with_reducible assumption) | assumption)
        have q10 : (x6_1 : Int) < ((x5_1.length : Int) : Int) := of_decide_eq_true (by first | (with_reducible assumption) | assumption)
        obtain ⟨go10, co10, eo10, gb10, gl10, cl10, HG10⟩ := Kd.R_form HO_5.out (by omega)
        (first | cases eo10 | (injection eo10 with ea_ en_ ec_; (first | subst ea_ | (injection ea_ with ea_; subst ea_)); subst ec_; clear en_))
        have GB10 := Azz.mk gb10
        have GG10 := Azz.mk HG10
        clear gb10 gl10 HG10
        obtain ⟨hx10_0, hf10_0⟩ := Kd.R_celln 0 HO_5.out (x6_1 : Int) p10 q10
        replace p10 := eq_true p10
        replace q10 := eq_true q10
        have HP11 := Kd.R_putg HO_5.out (x6_1 : Int) ((Int.tmod x0_1 256) % 256)
        go_wp2_with (first | ((with_reducible refine gate_store (t := 5) (p := 20) rfl ?_); refine store_event (t := 5) (p := 20) (v := ?vo_w12) (w1 := (wr.setCell ⟨go10, (x6_1 : Int).toNat, none⟩ (.int .u8 ((Int.tmod x0_1 256) % 256)))) ?hg ?ho ?hn ?hr ?_; (case ho => rfl); (case hg => rfl); (case hn => rfl); (case hr => first | (go_simp; done) | (go_simp; rfl)); intro w12 hw; have hg : wr.grownBy w12 (some go10) := (by rw [hw]; exact HP11.2); have hp_ : Kd.R (Kd.int .u8) 5 w12 w.heap.size (fun _ => True) (.slice (some ⟨go10, 0, none⟩) x5_1.length co10) y284 := (by rw [hw, Ny284.out]; exact HP11.1); clear HP11; have n0_ := Azz.mk (hp_); have n1_ := Azz.mk ((by rw [hw]; exact bst (HB.out) GB10.out : Below w.heap.size w w12)); clear HO_5; clear HB; have HO_5 := n0_; have HB := n1_; clear n0_ n1_; clear hg hw hp_))
        go_roundg k1
        case measure => have := HK1.out; omega
        case rel => exact ⟨(IntKind.u64.wrap (Int.tdiv x0_1 256)), (y284), (wrap64 (x6_1 - 1)), (by first | rfl | (simp; done) | (simp [*]; done)), (by first | rfl | (simp; done) | (simp [*]; done)), H', ⟨by have := HK1.out; omega⟩, ⟨by (with_reducible repeat (first | apply Kd.R_alloc | apply Kd.R_drewN | apply Kd.R_drew)); exact HO_5.out⟩, ⟨by repeat (first | (with_reducible first | exact HB.out | apply bal | apply pbN | apply bd1) | exact HB.out)⟩⟩
       ·rw [if_neg c9] at H
        exact absurd H (by simp)
      ·rw [if_neg c8] at H
       exact absurd H (by simp)
     ·rw [if_neg c7] at H
      have c7b0 : decide (0 ≤ x6_1) = false := decide_eq_false c7
      clear c7
      obtain rfl := Option.some.inj H
      go_wp2
      go_ret
      exact ⟨_, by first | rfl | (simp [errW_none, errW_some] <;> rfl) | (simp [*, errW_none, errW_some] <;> rfl), by (with_reducible repeat (first | apply Kd.R_alloc | apply Kd.R_drewN | apply Kd.R_drew)); exact HO_5.out, by repeat (first | (with_reducible first | exact HB.out | apply bal | apply pbN | apply bd1) | exact HB.out)⟩
  ·rw [if_neg c4] at H
   exact absurd H (by simp)
 ·rw [if_neg c3] at H
  exact absurd H (by simp)

end Go.Proofs.Ytgeheedfmdlefaa.PF
end

section
namespace Go.Proofs.Ytgeheedfmdlefaa.PF
open Go.RowKit Go.Proofs.YtgeheedfmdlefaaW.PrintWords Go.Proofs.YtgeheedfmdlefaaW.PrintLast Go.Proofs.YtgeheedfmdlefaaW.PrintMore Go.Proofs.Ytgeheedfmdlefaa.Conv
attribute [local go_sem] max2_int min2_int max_two min_two max_three min_three max_four min_four   -- for this text's walks alone
set_option linter.unusedVariables false
set_option linter.unusedSimpArgs false

/-! ### rf_Control: function 15 -/
def rf_Control.f (k : Nat) (a0_0 : Int) (a0_1 : Int) (a0_2 : Int) (a0_3 : Int) (a0_4 : Int) : Option (List Int) := (rf_number.f k (IntKind.u64.wrap (a0_2)) 8).bind fun t289 => ((rf_lay.f k (([137, 29, (a0_0) % 256, (a0_1) % 256] : List Int)) t289).bind fun t292 => ((rf_number.f k (IntKind.u64.wrap (a0_3)) 4).bind fun t295 => ((rf_lay.f k t292 t295).bind fun t298 => ((rf_number.f k (IntKind.u64.wrap (a0_4)) 8).bind fun t301 => ((rf_lay.f k t298 t301).bind fun t304 => ((rf_number.f k 0 6).bind fun t307 => ((rf_lay.f k t304 t307).bind fun t310 => ((rf_Sum.f k t310).bind fun t313 => ((rf_number.f k (IntKind.u64.wrap (t313)) 4).bind fun t314 => ((rf_lay.f k t310 t314).bind fun t317 => (some t317)))))))))))
theorem rf_Control.mono : ∀ a0 a1 a2 a3 a4 k, LeO (rf_Control.f k a0 a1 a2 a3 a4) (rf_Control.f (k + 1) a0 a1 a2 a3 a4) := by
 intro a0 a1 a2 a3 a4 k
 unfold rf_Control.f
 repeat' first
   | (with_reducible exact rf_Sum.mono _ _)
   | (with_reducible exact rf_lay.mono _ _ _)
   | (with_reducible exact rf_number.mono _ _ _)
   | (with_reducible exact LeO.refl _)
   | (with_reducible exact LeO.none _)
   | (with_reducible refine LeO.ite ?_ ?_)
   | (with_reducible refine LeO.bind ?_ (fun _ => ?_))
   | exact rf_Sum.mono _ _
   | exact rf_lay.mono _ _ _
   | exact rf_number.mono _ _ _
   | exact LeO.none _
   | refine LeO.ite ?_ ?_
   | refine LeO.bind ?_ (fun _ => ?_)
set_option maxHeartbeats 8000000 in
set_option maxRecDepth 100000 in
theorem rf_Control.calls (k : Nat) (a0_0 : Int) (a0_1 : Int) (a0_2 : Int) (a0_3 : Int) (a0_4 : Int) (r : List Int) (w : World) (h : rf_Control.f k a0_0 a0_1 a0_2 a0_3 a0_4 = some r) :
  Calls Try.prog 15 #[.agg #[.int .i64 a0_0, .int .i64 a0_1, .int .i64 a0_2, .int .u32 a0_3, .int .i64 a0_4]] w fun e w' => ∃ v0_ : Value, e = .returned (v0_) ∧ Kd.R (Kd.int .u8) 5 w' w.heap.size (fun _ => True) v0_ r ∧ Below w.heap.size w w' := by
 have hu24 := Try.underlying24
 have HB := Azz.mk (Below.refl w.heap.size w)
 have H : ((rf_number.f k (IntKind.u64.wrap (a0_2)) 8).bind fun t289 => ((rf_lay.f k (([137, 29, (a0_0) % 256, (a0_1) % 256] : List Int)) t289).bind fun t292 => ((rf_number.f k (IntKind.u64.wrap (a0_3)) 4).bind fun t295 => ((rf_lay.f k t292 t295).bind fun t298 => ((rf_number.f k (IntKind.u64.wrap (a0_4)) 8).bind fun t301 => ((rf_lay.f k t298 t301).bind fun t304 => ((rf_number.f k 0 6).bind fun t307 => ((rf_lay.f k t304 t307).bind fun t310 => ((rf_Sum.f k t310).bind fun t313 => ((rf_number.f k (IntKind.u64.wrap (t313)) 4).bind fun t314 => ((rf_lay.f k t310 t314).bind fun t317 => (some t317)))))))))))) = some r := h
 clear h
 obtain ⟨y286, hy286⟩ : ∃ y_ : List Int, y_ = (([137, 29, (a0_0) % 256, (a0_1) % 256] : List Int)) := ⟨_, rfl⟩
 replace H : ((rf_number.f k (IntKind.u64.wrap (a0_2)) 8).bind fun t289 => ((rf_lay.f k y286 t289).bind fun t292 => ((rf_number.f k (IntKind.u64.wrap (a0_3)) 4).bind fun t295 => ((rf_lay.f k t292 t295).bind fun t298 => ((rf_number.f k (IntKind.u64.wrap (a0_4)) 8).bind fun t301 => ((rf_lay.f k t298 t301).bind fun t304 => ((rf_number.f k 0 6).bind fun t307 => ((rf_lay.f k t304 t307).bind fun t310 => ((rf_Sum.f k t310).bind fun t313 => ((rf_number.f k (IntKind.u64.wrap (t313)) 4).bind fun t314 => ((rf_lay.f k t310 t314).bind fun t317 => (some t317)))))))))))) = some r := by first | (rw [hy286]; with_reducible exact H) | (have H2_ := (Option.bind_some _ _).symm.trans H; rw [hy286]; with_reducible exact H2_) | (have H2_ := (Option.bind_some _ _).symm.trans H; with_reducible exact H2_) | with_reducible exact H | (rw [hy286]; exact H) | exact H
 have Ny286 := Azz.mk hy286
 clear hy286
 replace H := Option.bind_eq_some_iff.mp H
 obtain ⟨t289, A20, H⟩ := H
 replace H : ((rf_lay.f k y286 t289).bind fun t292 => ((rf_number.f k (IntKind.u64.wrap (a0_3)) 4).bind fun t295 => ((rf_lay.f k t292 t295).bind fun t298 => ((rf_number.f k (IntKind.u64.wrap (a0_4)) 8).bind fun t301 => ((rf_lay.f k t298 t301).bind fun t304 => ((rf_number.f k 0 6).bind fun t307 => ((rf_lay.f k t304 t307).bind fun t310 => ((rf_Sum.f k t310).bind fun t313 => ((rf_number.f k (IntKind.u64.wrap (t313)) 4).bind fun t314 => ((rf_lay.f k t310 t314).bind fun t317 => (some t317))))))))))) = some r := H
 have A2 := Azz.mk A20
 clear A20
 replace H := Option.bind_eq_some_iff.mp H
 obtain ⟨t292, A30, H⟩ := H
 replace H : ((rf_number.f k (IntKind.u64.wrap (a0_3)) 4).bind fun t295 => ((rf_lay.f k t292 t295).bind fun t298 => ((rf_number.f k (IntKind.u64.wrap (a0_4)) 8).bind fun t301 => ((rf_lay.f k t298 t301).bind fun t304 => ((rf_number.f k 0 6).bind fun t307 => ((rf_lay.f k t304 t307).bind fun t310 => ((rf_Sum.f k t310).bind fun t313 => ((rf_number.f k (IntKind.u64.wrap (t313)) 4).bind fun t314 => ((rf_lay.f k t310 t314).bind fun t317 => (some t317)))))))))) = some r := H
 have A3 := Azz.mk A30
 clear A30
 replace H := Option.bind_eq_some_iff.mp H
 obtain ⟨t295, A40, H⟩ := H
 replace H : ((rf_lay.f k t292 t295).bind fun t298 => ((rf_number.f k (IntKind.u64.wrap (a0_4)) 8).bind fun t301 => ((rf_lay.f k t298 t301).bind fun t304 => ((rf_number.f k 0 6).bind fun t307 => ((rf_lay.f k t304 t307).bind fun t310 => ((rf_Sum.f k t310).bind fun t313 => ((rf_number.f k (IntKind.u64.wrap (t313)) 4).bind fun t314 => ((rf_lay.f k t310 t314).bind fun t317 => (some t317))))))))) = some r := H
 have A4 := Azz.mk A40
 clear A40
 replace H := Option.bind_eq_some_iff.mp H
 obtain ⟨t298, A50, H⟩ := H
 replace H : ((rf_number.f k (IntKind.u64.wrap (a0_4)) 8).bind fun t301 => ((rf_lay.f k t298 t301).bind fun t304 => ((rf_number.f k 0 6).bind fun t307 => ((rf_lay.f k t304 t307).bind fun t310 => ((rf_Sum.f k t310).bind fun t313 => ((rf_number.f k (IntKind.u64.wrap (t313)) 4).bind fun t314 => ((rf_lay.f k t310 t314).bind fun t317 => (some t317)))))))) = some r := H
 have A5 := Azz.mk A50
 clear A50
 replace H := Option.bind_eq_some_iff.mp H
 obtain ⟨t301, A60, H⟩ := H
 replace H : ((rf_lay.f k t298 t301).bind fun t304 => ((rf_number.f k 0 6).bind fun t307 => ((rf_lay.f k t304 t307).bind fun t310 => ((rf_Sum.f k t310).bind fun t313 => ((rf_number.f k (IntKind.u64.wrap (t313)) 4).bind fun t314 => ((rf_lay.f k t310 t314).bind fun t317 => (some t317))))))) = some r := H
 have A6 := Azz.mk A60
 clear A60
 replace H := Option.bind_eq_some_iff.mp H
 obtain ⟨t304, A70, H⟩ := H
 replace H : ((rf_number.f k 0 6).bind fun t307 => ((rf_lay.f k t304 t307).bind fun t310 => ((rf_Sum.f k t310).bind fun t313 => ((rf_number.f k (IntKind.u64.wrap (t313)) 4).bind fun t314 => ((rf_lay.f k t310 t314).bind fun t317 => (some t317)))))) = some r := H
 have A7 := Azz.mk A70
 clear A70
 replace H := Option.bind_eq_some_iff.mp H
 obtain ⟨t307, A80, H⟩ := H
 replace H : ((rf_lay.f k t304 t307).bind fun t310 => ((rf_Sum.f k t310).bind fun t313 => ((rf_number.f k (IntKind.u64.wrap (t313)) 4).bind fun t314 => ((rf_lay.f k t310 t314).bind fun t317 => (some t317))))) = some r := H
 have A8 := Azz.mk A80
 clear A80
 replace H := Option.bind_eq_some_iff.mp H
 obtain ⟨t310, A90, H⟩ := H
 replace H : ((rf_Sum.f k t310).bind fun t313 => ((rf_number.f k (IntKind.u64.wrap (t313)) 4).bind fun t314 => ((rf_lay.f k t310 t314).bind fun t317 => (some t317)))) = some r := H
 have A9 := Azz.mk A90
 clear A90
 replace H := Option.bind_eq_some_iff.mp H
 obtain ⟨t313, A100, H⟩ := H
 replace H : ((rf_number.f k (IntKind.u64.wrap (t313)) 4).bind fun t314 => ((rf_lay.f k t310 t314).bind fun t317 => (some t317))) = some r := H
 have A10 := Azz.mk A100
 clear A100
 replace H := Option.bind_eq_some_iff.mp H
 obtain ⟨t314, A110, H⟩ := H
 replace H : ((rf_lay.f k t310 t314).bind fun t317 => (some t317)) = some r := H
 have A11 := Azz.mk A110
 clear A110
 replace H := Option.bind_eq_some_iff.mp H
 obtain ⟨t317, A120, H⟩ := H
 replace H : (some t317) = some r := H
 have A12 := Azz.mk A120
 clear A120
 obtain rfl := Option.some.inj H
 go_enter Try.func15, Try.ntmps15
 go_wp2_with (first | ((with_reducible refine gate_dst (N := 1) rfl ?_); refine box_event ?hg (N := 1) ?hd (cs := #[.int .i64 a0_0, .int .i64 a0_1, .int .i64 a0_2, .int .u32 a0_3, .int .i64 a0_4]) (t := 24) ?hr ?_; (case hd => rfl); (case hg => rfl); (case hr => first | (go_simp; done) | (go_simp; rfl)); intro gb285 hg w13 hbox hb; have n0_ := Azz.mk (below_step (by repeat (first | (with_reducible first | exact HB.out | apply bal | apply pbN | apply bd1) | exact HB.out)) hb); have n1_ := Azz.mk (hbox); have n2_ := Azz.mk ((by rw [hg]; exact (below_size (by repeat (first | (with_reducible first | exact HB.out | apply bal | apply pbN | apply bd1) | exact HB.out))) : w.heap.size ≤ gb285)); have n3_ := Azz.mk ((by rw [hg]; exact (below_size (by repeat (first | (with_reducible first | exact HB.out | apply bal | apply pbN | apply bd1) | exact HB.out))) : w.heap.size ≤ gb285)); clear HB; have HB := n0_; have BK285 := n1_; have GW285 := n2_; have GE285 := n3_; clear n0_ n1_ n2_ n3_; clear hb hbox hg; have hcz14_0 : World.cell? _ ⟨gb285, 0, none⟩ = some (.int .i64 a0_0) := (kcl BK285.out 0).trans rfl; have hcz14_1 : World.cell? _ ⟨gb285, 1, none⟩ = some (.int .i64 a0_1) := (kcl BK285.out 1).trans rfl; have hcz14_2 : World.cell? _ ⟨gb285, 2, none⟩ = some (.int .i64 a0_2) := (kcl BK285.out 2).trans rfl; have hcz14_3 : World.cell? _ ⟨gb285, 3, none⟩ = some (.int .u32 a0_3) := (kcl BK285.out 3).trans rfl; have hcz14_4 : World.cell? _ ⟨gb285, 4, none⟩ = some (.int .i64 a0_4) := (kcl BK285.out 4).trans rfl; have hfz14_0 := kfz BK285.out 0; have hfz14_1 := kfz BK285.out 1; have hfz14_2 := kfz BK285.out 2; have hfz14_3 := kfz BK285.out 3; have hfz14_4 := kfz BK285.out 4) | ((with_reducible refine gate_dst (N := 10) rfl ?_); refine Kd.R_lit (Kd.int .u8) _ 5 ?hg (N := 10) ?hd (xs := ([137, 29, (a0_0) % 256, (a0_1) % 256] : List Int)) (inner := [.int .u8 137, .int .u8 29, .int .u8 ((a0_0) % 256), .int .u8 ((a0_1) % 256)]) (ok := fun _ => True) (okp := fun _ => True) ?hr ?hp (fun _ hk => hk) trivial (Below.refl _ _) (Nat.le_refl _) (by simp) ?_; (case hd => rfl); (case hg => rfl); (case hr => first | (go_simp; done) | (go_simp; rfl)); (case hp => exact (Reps.one (show Kd.M (Kd.int .u8) _ _ _ 137 [.int .u8 137] from rfl) (Reps.one (show Kd.M (Kd.int .u8) _ _ _ 29 [.int .u8 29] from rfl) (Reps.one (show Kd.M (Kd.int .u8) _ _ _ ((a0_0) % 256) [.int .u8 ((a0_0) % 256)] from rfl) (Reps.one (show Kd.M (Kd.int .u8) _ _ _ ((a0_1) % 256) [.int .u8 ((a0_1) % 256)] from rfl) (Reps.none _ _)))))); intro v287 w15 ho16 hb hg_ hnew_; clear hg_ hnew_; (first | rw [← Ny286.out] at ho16 | (simp only [Int.reduceToNat] at ho16; rw [← Ny286.out] at ho16)); have n0_ := Azz.mk (Kd.R_lower ho16 (below_size (by repeat (first | (with_reducible first | exact HB.out | apply bal | apply pbN | apply bd1 | refine bst ?_ GE285.out) | exact HB.out)))); have n1_ := Azz.mk (blk_below (g := gb285) (o := .cells #[.int .i64 a0_0, .int .i64 a0_1, .int .i64 a0_2, .int .u32 a0_3, .int .i64 a0_4] 24 (0, 0)) (by (with_reducible repeat (first | refine kdN ?_ _ | refine kd1 ?_ | refine kal ?_ _)); exact BK285.out) hb); have n2_ := Azz.mk (below_step (by repeat (first | (with_reducible first | exact HB.out | apply bal | apply pbN | apply bd1 | refine bst ?_ GE285.out) | exact HB.out)) hb); clear BK285; clear HB; have HO288 := n0_; have BK285 := n1_; have HB := n2_; clear n0_ n1_ n2_; clear hb ho16; have hcz17_0 : World.cell? _ ⟨gb285, 0, none⟩ = some (.int .i64 a0_0) := (kcl BK285.out 0).trans rfl; have hcz17_1 : World.cell? _ ⟨gb285, 1, none⟩ = some (.int .i64 a0_1) := (kcl BK285.out 1).trans rfl; have hcz17_2 : World.cell? _ ⟨gb285, 2, none⟩ = some (.int .i64 a0_2) := (kcl BK285.out 2).trans rfl; have hcz17_3 : World.cell? _ ⟨gb285, 3, none⟩ = some (.int .u32 a0_3) := (kcl BK285.out 3).trans rfl; have hcz17_4 : World.cell? _ ⟨gb285, 4, none⟩ = some (.int .i64 a0_4) := (kcl BK285.out 4).trans rfl; have hfz17_0 := kfz BK285.out 0; have hfz17_1 := kfz BK285.out 1; have hfz17_2 := kfz BK285.out 2; have hfz17_3 := kfz BK285.out 3; have hfz17_4 := kfz BK285.out 4) | ((with_reducible refine gate_callee (f := 33) rfl ?_); refine goesL_ (some 15) rfl rfl Try.func33 (by kernel_rfl) rfl #[.int .u64 (IntKind.u64.wrap (a0_2)), .int .i64 8] rfl (by (try simp only [List.map_toArray, List.map_cons, List.map_nil]); first | done | rfl | (simp only [List.length_drop, List.length_take]; rfl)) ?_; (with_reducible refine (rf_number.calls k (IntKind.u64.wrap (a0_2)) 8 t289 _ A2.out).mono ?_); rintro e w18 ⟨v290, rfl, ho0, hb⟩; refine ⟨_, rfl, ?_⟩; have n0_ := Azz.mk (Kd.R_elder' (by (with_reducible repeat (first | apply Kd.R_alloc | apply Kd.R_drewN | apply Kd.R_drew)); exact HO288.out) (Kd.R_base ho0) hb); have n1_ := Azz.mk (Kd.R_lower (Kd.R_new' ho0 (Kd.R_lt (by (with_reducible repeat (first | apply Kd.R_alloc | apply Kd.R_drewN | apply Kd.R_drew)); exact HO288.out))) (below_size (by repeat (first | (with_reducible first | exact HB.out | apply bal | apply pbN | apply bd1 | refine bst ?_ GE285.out) | exact HB.out)))); have n2_ := Azz.mk (blk_below (g := gb285) (o := .cells #[.int .i64 a0_0, .int .i64 a0_1, .int .i64 a0_2, .int .u32 a0_3, .int .i64 a0_4] 24 (0, 0)) (by (with_reducible repeat (first | refine kdN ?_ _ | refine kd1 ?_ | refine kal ?_ _)); exact BK285.out) hb); have n3_ := Azz.mk (below_step (by repeat (first | (with_reducible first | exact HB.out | apply bal | apply pbN | apply bd1 | refine bst ?_ GE285.out) | exact HB.out)) hb); clear HO288; clear BK285; clear HB; have HO288 := n0_; have HO291 := n1_; have BK285 := n2_; have HB := n3_; clear n0_ n1_ n2_ n3_; (try clear hb); (try clear hb2); (try clear hk); (try clear hi); (try clear ho0); obtain ⟨Ao19, co19, eo19⟩ := Kd.R_slice HO288.out; subst eo19; obtain ⟨Ao20, co20, eo20⟩ := Kd.R_slice HO291.out; subst eo20) | ((with_reducible refine gate_callee (f := 32) rfl ?_); refine goesL_ (some 16) rfl rfl Try.func32 (by kernel_rfl) rfl #[.slice Ao19 y286.length co19, .slice Ao20 t289.length co20] rfl (by (try simp only [List.map_toArray, List.map_cons, List.map_nil]); first | done | rfl | (simp only [List.length_drop, List.length_take]; rfl)) ?_; (with_reducible refine (rf_lay.calls k (fun k_ => some k_ = (.slice Ao19 y286.length co19 : Value).ownBlock) (.slice Ao19 y286.length co19) y286 _ _ t289 t292 w _ ?side1 ?side2 ?side3 ?side4 A3.out).mono ?_); (case side1 => repeat (first | (with_reducible first | exact HB.out | apply bal | apply pbN | apply bd1 | refine bst ?_ GE285.out) | exact HB.out)); (case side2 => exact Kd.R_tight rfl HO288.out); (case side3 => exact Kd.C_kept_own (HO291.out) (fun k_ hk_ hs_ => (hk_.2) hs_)); (case side4 => exact (Kd.R_reads' HO291.out).2.1); rintro e w21 ⟨v293, rfl, ho0, hb, hkp⟩; refine ⟨_, rfl, ?_⟩; have n0_ := Azz.mk (blk_kept (by (with_reducible repeat (first | refine kdN ?_ _ | refine kd1 ?_ | refine kal ?_ _)); exact BK285.out) hkp (fun hs_ => (fun e_ => (Kd.R_ne HO288.out BK285.out (by decide)) e_) hs_)); have n1_ := Azz.mk (Kd.R_mono (ok' := fun k_ => some k_ ≠ (v293 : Value).ownBlock) (Kd.R_keptB (HO291.out) hkp (fun k_ hk_ hs_ => (hk_.2) hs_)) (fun k_ hk_ => fun e_ => Or.elim (ho0.1 k_ e_.symm) (fun hs_ => hk_.2.1 hs_) (fun hn_ => Nat.not_le.2 hk_.2.2 hn_))); have n2_ := Azz.mk (Kd.R_mono (ok' := fun k_ => some k_ ≠ (.slice Ao20 t289.length co20 : Value).ownBlock) ho0 (fun k_ hk_ => Or.elim hk_ (fun hs_ => fun e_ => (((HO291.out).1 k_ e_.symm).2) hs_) (fun hn_ => (Kd.fresh' (Kd.R_lt (by (with_reducible repeat (first | apply Kd.R_alloc | apply Kd.R_drewN | apply Kd.R_drew)); exact HO291.out)) k_ hn_)))); have n3_ := Azz.mk (hb); clear BK285; clear HO291; clear HB; clear HO288; have BK285 := n0_; have HO291 := n1_; have HO294 := n2_; have HB := n3_; clear n0_ n1_ n2_ n3_; (try clear hb); (try clear hkp); (try clear ho0); have hcz22_0 : World.cell? _ ⟨gb285, 0, none⟩ = some (.int .i64 a0_0) := (kcl BK285.out 0).trans rfl; have hcz22_1 : World.cell? _ ⟨gb285, 1, none⟩ = some (.int .i64 a0_1) := (kcl BK285.out 1).trans rfl; have hcz22_2 : World.cell? _ ⟨gb285, 2, none⟩ = some (.int .i64 a0_2) := (kcl BK285.out 2).trans rfl; have hcz22_3 : World.cell? _ ⟨gb285, 3, none⟩ = some (.int .u32 a0_3) := (kcl BK285.out 3).trans rfl; have hcz22_4 : World.cell? _ ⟨gb285, 4, none⟩ = some (.int .i64 a0_4) := (kcl BK285.out 4).trans rfl; have hfz22_0 := kfz BK285.out 0; have hfz22_1 := kfz BK285.out 1; have hfz22_2 := kfz BK285.out 2; have hfz22_3 := kfz BK285.out 3; have hfz22_4 := kfz BK285.out 4) | ((with_reducible refine gate_callee (f := 33) rfl ?_); refine goesL_ (some 21) rfl rfl Try.func33 (by kernel_rfl) rfl #[.int .u64 (IntKind.u64.wrap (a0_3)), .int .i64 4] rfl (by (try simp only [List.map_toArray, List.map_cons, List.map_nil]); first | done | rfl | (simp only [List.length_drop, List.length_take]; rfl)) ?_; (with_reducible refine (rf_number.calls k (IntKind.u64.wrap (a0_3)) 4 t295 _ A4.out).mono ?_); rintro e w23 ⟨v296, rfl, ho0, hb⟩; refine ⟨_, rfl, ?_⟩; have n0_ := Azz.mk (Kd.R_elder' (by (with_reducible repeat (first | apply Kd.R_alloc | apply Kd.R_drewN | apply Kd.R_drew)); exact HO291.out) (Kd.R_base ho0) hb); have n1_ := Azz.mk (Kd.R_elder' (by (with_reducible repeat (first | apply Kd.R_alloc | apply Kd.R_drewN | apply Kd.R_drew)); exact HO294.out) (Kd.R_base ho0) hb); have n2_ := Azz.mk (Kd.R_lower (Kd.R_new' (Kd.R_new' ho0 (Kd.R_lt (by (with_reducible repeat (first | apply Kd.R_alloc | apply Kd.R_drewN | apply Kd.R_drew)); exact HO291.out))) (Kd.R_lt (by (with_reducible repeat (first | apply Kd.R_alloc | apply Kd.R_drewN | apply Kd.R_drew)); exact HO294.out))) (below_size (by repeat (first | (with_reducible first | exact HB.out | apply bal | apply pbN | apply bd1 | refine bst ?_ GE285.out) | exact HB.out)))); have n3_ := Azz.mk (blk_below (g := gb285) (o := .cells #[.int .i64 a0_0, .int .i64 a0_1, .int .i64 a0_2, .int .u32 a0_3, .int .i64 a0_4] 24 (0, 0)) (by (with_reducible repeat (first | refine kdN ?_ _ | refine kd1 ?_ | refine kal ?_ _)); exact BK285.out) hb); have n4_ := Azz.mk (below_step (by repeat (first | (with_reducible first | exact HB.out | apply bal | apply pbN | apply bd1 | refine bst ?_ GE285.out) | exact HB.out)) hb); clear HO291; clear HO294; clear BK285; clear HB; have HO291 := n0_; have HO294 := n1_; have HO297 := n2_; have BK285 := n3_; have HB := n4_; clear n0_ n1_ n2_ n3_ n4_; (try clear hb); (try clear hb2); (try clear hk); (try clear hi); (try clear ho0); obtain ⟨Ao24, co24, eo24⟩ := Kd.R_slice HO294.out; subst eo24; obtain ⟨Ao25, co25, eo25⟩ := Kd.R_slice HO297.out; subst eo25) | ((with_reducible refine gate_callee (f := 32) rfl ?_); refine goesL_ (some 22) rfl rfl Try.func32 (by kernel_rfl) rfl #[.slice Ao24 t292.length co24, .slice Ao25 t295.length co25] rfl (by (try simp only [List.map_toArray, List.map_cons, List.map_nil]); first | done | rfl | (simp only [List.length_drop, List.length_take]; rfl)) ?_; (with_reducible refine (rf_lay.calls k (fun k_ => some k_ = (.slice Ao24 t292.length co24 : Value).ownBlock) (.slice Ao24 t292.length co24) t292 _ _ t295 t298 w _ ?side1 ?side2 ?side3 ?side4 A5.out).mono ?_); (case side1 => repeat (first | (with_reducible first | exact HB.out | apply bal | apply pbN | apply bd1 | refine bst ?_ GE285.out) | exact HB.out)); (case side2 => exact Kd.R_tight rfl HO294.out); (case side3 => exact Kd.C_kept_own (HO297.out) (fun k_ hk_ hs_ => (hk_.2) hs_)); (case side4 => exact (Kd.R_reads' HO297.out).2.1); rintro e w26 ⟨v299, rfl, ho0, hb, hkp⟩; refine ⟨_, rfl, ?_⟩; have n0_ := Azz.mk (blk_kept (by (with_reducible repeat (first | refine kdN ?_ _ | refine kd1 ?_ | refine kal ?_ _)); exact BK285.out) hkp (fun hs_ => (fun e_ => (Kd.R_ne HO294.out BK285.out (by decide)) e_) hs_)); have n1_ := Azz.mk (Kd.R_mono (ok' := fun k_ => some k_ ≠ (.slice Ao25 t295.length co25 : Value).ownBlock ∧ some k_ ≠ (v299 : Value).ownBlock) (Kd.R_keptB (HO291.out) hkp (fun k_ hk_ hs_ => (hk_.1) hs_)) (fun k_ hk_ => ⟨hk_.1.2, fun e_ => Or.elim (ho0.1 k_ e_.symm) (fun hs_ => hk_.2.1 hs_) (fun hn_ => Nat.not_le.2 hk_.2.2 hn_)⟩)); have n2_ := Azz.mk (Kd.R_mono (ok' := fun k_ => some k_ ≠ (.slice Ao20 t289.length co20 : Value).ownBlock ∧ some k_ ≠ (v299 : Value).ownBlock) (Kd.R_keptB (HO297.out) hkp (fun k_ hk_ hs_ => (hk_.2) hs_)) (fun k_ hk_ => ⟨hk_.1.1.2, fun e_ => Or.elim (ho0.1 k_ e_.symm) (fun hs_ => hk_.2.1 hs_) (fun hn_ => Nat.not_le.2 hk_.2.2 hn_)⟩)); have n3_ := Azz.mk (Kd.R_mono (ok' := fun k_ => some k_ ≠ (.slice Ao20 t289.length co20 : Value).ownBlock ∧ some k_ ≠ (.slice Ao25 t295.length co25 : Value).ownBlock) ho0 (fun k_ hk_ => ⟨Or.elim hk_ (fun hs_ => fun e_ => (((HO291.out).1 k_ e_.symm).1) hs_) (fun hn_ => (Kd.fresh' (Kd.R_lt (by (with_reducible repeat (first | apply Kd.R_alloc | apply Kd.R_drewN | apply Kd.R_drew)); exact HO291.out)) k_ hn_)), Or.elim hk_ (fun hs_ => fun e_ => (((HO297.out).1 k_ e_.symm).2) hs_) (fun hn_ => (Kd.fresh' (Kd.R_lt (by (with_reducible repeat (first | apply Kd.R_alloc | apply Kd.R_drewN | apply Kd.R_drew)); exact HO297.out)) k_ hn_))⟩)); have n4_ := Azz.mk (hb); clear BK285; clear HO291; clear HO297; clear HB; clear HO294; have BK285 := n0_; have HO291 := n1_; have HO297 := n2_; have HO300 := n3_; have HB := n4_; clear n0_ n1_ n2_ n3_ n4_; (try clear hb); (try clear hkp); (try clear ho0); have hcz27_0 : World.cell? _ ⟨gb285, 0, none⟩ = some (.int .i64 a0_0) := (kcl BK285.out 0).trans rfl; have hcz27_1 : World.cell? _ ⟨gb285, 1, none⟩ = some (.int .i64 a0_1) := (kcl BK285.out 1).trans rfl; have hcz27_2 : World.cell? _ ⟨gb285, 2, none⟩ = some (.int .i64 a0_2) := (kcl BK285.out 2).trans rfl; have hcz27_3 : World.cell? _ ⟨gb285, 3, none⟩ = some (.int .u32 a0_3) := (kcl BK285.out 3).trans rfl; have hcz27_4 : World.cell? _ ⟨gb285, 4, none⟩ = some (.int .i64 a0_4) := (kcl BK285.out 4).trans rfl; have hfz27_0 := kfz BK285.out 0; have hfz27_1 := kfz BK285.out 1; have hfz27_2 := kfz BK285.out 2; have hfz27_3 := kfz BK285.out 3; have hfz27_4 := kfz BK285.out 4) | ((with_reducible refine gate_callee (f := 33) rfl ?_); refine goesL_ (some 27) rfl rfl Try.func33 (by kernel_rfl) rfl #[.int .u64 (IntKind.u64.wrap (a0_4)), .int .i64 8] rfl (by (try simp only [List.map_toArray, List.map_cons, List.map_nil]); first | done | rfl | (simp only [List.length_drop, List.length_take]; rfl)) ?_; (with_reducible refine (rf_number.calls k (IntKind.u64.wrap (a0_4)) 8 t301 _ A6.out).mono ?_); rintro e w28 ⟨v302, rfl, ho0, hb⟩; refine ⟨_, rfl, ?_⟩; have n0_ := Azz.mk (Kd.R_elder' (by (with_reducible repeat (first | apply Kd.R_alloc | apply Kd.R_drewN | apply Kd.R_drew)); exact HO291.out) (Kd.R_base ho0) hb); have n1_ := Azz.mk (Kd.R_elder' (by (with_reducible repeat (first | apply Kd.R_alloc | apply Kd.R_drewN | apply Kd.R_drew)); exact HO297.out) (Kd.R_base ho0) hb); have n2_ := Azz.mk (Kd.R_elder' (by (with_reducible repeat (first | apply Kd.R_alloc | apply Kd.R_drewN | apply Kd.R_drew)); exact HO300.out) (Kd.R_base ho0) hb); have n3_ := Azz.mk (Kd.R_lower (Kd.R_new' (Kd.R_new' (Kd.R_new' ho0 (Kd.R_lt (by (with_reducible repeat (first | apply Kd.R_alloc | apply Kd.R_drewN | apply Kd.R_drew)); exact HO291.out))) (Kd.R_lt (by (with_reducible repeat (first | apply Kd.R_alloc | apply Kd.R_drewN | apply Kd.R_drew)); exact HO297.out))) (Kd.R_lt (by (with_reducible repeat (first | apply Kd.R_alloc | apply Kd.R_drewN | apply Kd.R_drew)); exact HO300.out))) (below_size (by repeat (first | (with_reducible first | exact HB.out | apply bal | apply pbN | apply bd1 | refine bst ?_ GE285.out) | exact HB.out)))); have n4_ := Azz.mk (blk_below (g := gb285) (o := .cells #[.int .i64 a0_0, .int .i64 a0_1, .int .i64 a0_2, .int .u32 a0_3, .int .i64 a0_4] 24 (0, 0)) (by (with_reducible repeat (first | refine kdN ?_ _ | refine kd1 ?_ | refine kal ?_ _)); exact BK285.out) hb); have n5_ := Azz.mk (below_step (by repeat (first | (with_reducible first | exact HB.out | apply bal | apply pbN | apply bd1 | refine bst ?_ GE285.out) | exact HB.out)) hb); clear HO291; clear HO297; clear HO300; clear BK285; clear HB; have HO291 := n0_; have HO297 := n1_; have HO300 := n2_; have HO303 := n3_; have BK285 := n4_; have HB := n5_; clear n0_ n1_ n2_ n3_ n4_ n5_; (try clear hb); (try clear hb2); (try clear hk); (try clear hi); (try clear ho0); obtain ⟨Ao29, co29, eo29⟩ := Kd.R_slice HO300.out; subst eo29; obtain ⟨Ao30, co30, eo30⟩ := Kd.R_slice HO303.out; subst eo30) | ((with_reducible refine gate_callee (f := 32) rfl ?_); refine goesL_ (some 28) rfl rfl Try.func32 (by kernel_rfl) rfl #[.slice Ao29 t298.length co29, .slice Ao30 t301.length co30] rfl (by (try simp only [List.map_toArray, List.map_cons, List.map_nil]); first | done | rfl | (simp only [List.length_drop, List.length_take]; rfl)) ?_; (with_reducible refine (rf_lay.calls k (fun k_ => some k_ = (.slice Ao29 t298.length co29 : Value).ownBlock) (.slice Ao29 t298.length co29) t298 _ _ t301 t304 w _ ?side1 ?side2 ?side3 ?side4 A7.out).mono ?_); (case side1 => repeat (first | (with_reducible first | exact HB.out | apply bal | apply pbN | apply bd1 | refine bst ?_ GE285.out) | exact HB.out)); (case side2 => exact Kd.R_tight rfl HO300.out); (case side3 => exact Kd.C_kept_own (HO303.out) (fun k_ hk_ hs_ => (hk_.2) hs_)); (case side4 => exact (Kd.R_reads' HO303.out).2.1); rintro e w31 ⟨v305, rfl, ho0, hb, hkp⟩; refine ⟨_, rfl, ?_⟩; have n0_ := Azz.mk (blk_kept (by (with_reducible repeat (first | refine kdN ?_ _ | refine kd1 ?_ | refine kal ?_ _)); exact BK285.out) hkp (fun hs_ => (fun e_ => (Kd.R_ne HO300.out BK285.out (by decide)) e_) hs_)); have n1_ := Azz.mk (Kd.R_mono (ok' := fun k_ => some k_ ≠ (.slice Ao25 t295.length co25 : Value).ownBlock ∧ some k_ ≠ (.slice Ao30 t301.length co30 : Value).ownBlock ∧ some k_ ≠ (v305 : Value).ownBlock) (Kd.R_keptB (HO291.out) hkp (fun k_ hk_ hs_ => (hk_.1.2) hs_)) (fun k_ hk_ => ⟨hk_.1.1.1, hk_.1.2, fun e_ => Or.elim (ho0.1 k_ e_.symm) (fun hs_ => hk_.2.1 hs_) (fun hn_ => Nat.not_le.2 hk_.2.2 hn_)⟩)); have n2_ := Azz.mk (Kd.R_mono (ok' := fun k_ => some k_ ≠ (.slice Ao20 t289.length co20 : Value).ownBlock ∧ some k_ ≠ (.slice Ao30 t301.length co30 : Value).ownBlock ∧ some k_ ≠ (v305 : Value).ownBlock) (Kd.R_keptB (HO297.out) hkp (fun k_ hk_ hs_ => (hk_.1.2) hs_)) (fun k_ hk_ => ⟨hk_.1.1.1, hk_.1.2, fun e_ => Or.elim (ho0.1 k_ e_.symm) (fun hs_ => hk_.2.1 hs_) (fun hn_ => Nat.not_le.2 hk_.2.2 hn_)⟩)); have n3_ := Azz.mk (Kd.R_mono (ok' := fun k_ => some k_ ≠ (.slice Ao20 t289.length co20 : Value).ownBlock ∧ some k_ ≠ (.slice Ao25 t295.length co25 : Value).ownBlock ∧ some k_ ≠ (v305 : Value).ownBlock) (Kd.R_keptB (HO303.out) hkp (fun k_ hk_ hs_ => (hk_.2) hs_)) (fun k_ hk_ => ⟨hk_.1.1.1.2, hk_.1.1.2, fun e_ => Or.elim (ho0.1 k_ e_.symm) (fun hs_ => hk_.2.1 hs_) (fun hn_ => Nat.not_le.2 hk_.2.2 hn_)⟩)); have n4_ := Azz.mk (Kd.R_mono (ok' := fun k_ => some k_ ≠ (.slice Ao20 t289.length co20 : Value).ownBlock ∧ some k_ ≠ (.slice Ao25 t295.length co25 : Value).ownBlock ∧ some k_ ≠ (.slice Ao30 t301.length co30 : Value).ownBlock) ho0 (fun k_ hk_ => ⟨Or.elim hk_ (fun hs_ => fun e_ => (((HO291.out).1 k_ e_.symm).1.2) hs_) (fun hn_ => (Kd.fresh' (Kd.R_lt (by (with_reducible repeat (first | apply Kd.R_alloc | apply Kd.R_drewN | apply Kd.R_drew)); exact HO291.out)) k_ hn_)), Or.elim hk_ (fun hs_ => fun e_ => (((HO297.out).1 k_ e_.symm).1.2) hs_) (fun hn_ => (Kd.fresh' (Kd.R_lt (by (with_reducible repeat (first | apply Kd.R_alloc | apply Kd.R_drewN | apply Kd.R_drew)); exact HO297.out)) k_ hn_)), Or.elim hk_ (fun hs_ => fun e_ => (((HO303.out).1 k_ e_.symm).2) hs_) (fun hn_ => (Kd.fresh' (Kd.R_lt (by (with_reducible repeat (first | apply Kd.R_alloc | apply Kd.R_drewN | apply Kd.R_drew)); exact HO303.out)) k_ hn_))⟩)); have n5_ := Azz.mk (hb); clear BK285; clear HO291; clear HO297; clear HO303; clear HB; clear HO300; have BK285 := n0_; have HO291 := n1_; have HO297 := n2_; have HO303 := n3_; have HO306 := n4_; have HB := n5_; clear n0_ n1_ n2_ n3_ n4_ n5_; (try clear hb); (try clear hkp); (try clear ho0)) | ((with_reducible refine gate_callee (f := 33) rfl ?_); refine goesL_ (some 30) rfl rfl Try.func33 (by kernel_rfl) rfl #[.int .u64 0, .int .i64 6] rfl (by (try simp only [List.map_toArray, List.map_cons, List.map_nil]); first | done | rfl | (simp only [List.length_drop, List.length_take]; rfl)) ?_; (with_reducible refine (rf_number.calls k 0 6 t307 _ A8.out).mono ?_); rintro e w32 ⟨v308, rfl, ho0, hb⟩; refine ⟨_, rfl, ?_⟩; have n0_ := Azz.mk (Kd.R_elder' (by (with_reducible repeat (first | apply Kd.R_alloc | apply Kd.R_drewN | apply Kd.R_drew)); exact HO291.out) (Kd.R_base ho0) hb); have n1_ := Azz.mk (Kd.R_elder' (by (with_reducible repeat (first | apply Kd.R_alloc | apply Kd.R_drewN | apply Kd.R_drew)); exact HO297.out) (Kd.R_base ho0) hb); have n2_ := Azz.mk (Kd.R_elder' (by (with_reducible repeat (first | apply Kd.R_alloc | apply Kd.R_drewN | apply Kd.R_drew)); exact HO303.out) (Kd.R_base ho0) hb); have n3_ := Azz.mk (Kd.R_elder' (by (with_reducible repeat (first | apply Kd.R_alloc | apply Kd.R_drewN | apply Kd.R_drew)); exact HO306.out) (Kd.R_base ho0) hb); have n4_ := Azz.mk (Kd.R_lower (Kd.R_new' (Kd.R_new' (Kd.R_new' (Kd.R_new' ho0 (Kd.R_lt (by (with_reducible repeat (first | apply Kd.R_alloc | apply Kd.R_drewN | apply Kd.R_drew)); exact HO291.out))) (Kd.R_lt (by (with_reducible repeat (first | apply Kd.R_alloc | apply Kd.R_drewN | apply Kd.R_drew)); exact HO297.out))) (Kd.R_lt (by (with_reducible repeat (first | apply Kd.R_alloc | apply Kd.R_drewN | apply Kd.R_drew)); exact HO303.out))) (Kd.R_lt (by (with_reducible repeat (first | apply Kd.R_alloc | apply Kd.R_drewN | apply Kd.R_drew)); exact HO306.out))) (below_size (by repeat (first | (with_reducible first | exact HB.out | apply bal | apply pbN | apply bd1 | refine bst ?_ GE285.out) | exact HB.out)))); have n5_ := Azz.mk (blk_below (g := gb285) (o := .cells #[.int .i64 a0_0, .int .i64 a0_1, .int .i64 a0_2, .int .u32 a0_3, .int .i64 a0_4] 24 (0, 0)) (by (with_reducible repeat (first | refine kdN ?_ _ | refine kd1 ?_ | refine kal ?_ _)); exact BK285.out) hb); have n6_ := Azz.mk (below_step (by repeat (first | (with_reducible first | exact HB.out | apply bal | apply pbN | apply bd1 | refine bst ?_ GE285.out) | exact HB.out)) hb); clear HO291; clear HO297; clear HO303; clear HO306; clear BK285; clear HB; have HO291 := n0_; have HO297 := n1_; have HO303 := n2_; have HO306 := n3_; have HO309 := n4_; have BK285 := n5_; have HB := n6_; clear n0_ n1_ n2_ n3_ n4_ n5_ n6_; (try clear hb); (try clear hb2); (try clear hk); (try clear hi); (try clear ho0); obtain ⟨Ao33, co33, eo33⟩ := Kd.R_slice HO306.out; subst eo33; obtain ⟨Ao34, co34, eo34⟩ := Kd.R_slice HO309.out; subst eo34) | ((with_reducible refine gate_callee (f := 32) rfl ?_); refine goesL_ (some 31) rfl rfl Try.func32 (by kernel_rfl) rfl #[.slice Ao33 t304.length co33, .slice Ao34 t307.length co34] rfl (by (try simp only [List.map_toArray, List.map_cons, List.map_nil]); first | done | rfl | (simp only [List.length_drop, List.length_take]; rfl)) ?_; (with_reducible refine (rf_lay.calls k (fun k_ => some k_ = (.slice Ao33 t304.length co33 : Value).ownBlock) (.slice Ao33 t304.length co33) t304 _ _ t307 t310 w _ ?side1 ?side2 ?side3 ?side4 A9.out).mono ?_); (case side1 => repeat (first | (with_reducible first | exact HB.out | apply bal | apply pbN | apply bd1 | refine bst ?_ GE285.out) | exact HB.out)); (case side2 => exact Kd.R_tight rfl HO306.out); (case side3 => exact Kd.C_kept_own (HO309.out) (fun k_ hk_ hs_ => (hk_.2) hs_)); (case side4 => exact (Kd.R_reads' HO309.out).2.1); rintro e w35 ⟨v311, rfl, ho0, hb, hkp⟩; refine ⟨_, rfl, ?_⟩; have n0_ := Azz.mk (blk_kept (by (with_reducible repeat (first | refine kdN ?_ _ | refine kd1 ?_ | refine kal ?_ _)); exact BK285.out) hkp (fun hs_ => (fun e_ => (Kd.R_ne HO306.out BK285.out (by decide)) e_) hs_)); have n1_ := Azz.mk (Kd.R_mono (ok' := fun k_ => some k_ ≠ (.slice Ao25 t295.length co25 : Value).ownBlock ∧ some k_ ≠ (.slice Ao30 t301.length co30 : Value).ownBlock ∧ some k_ ≠ (.slice Ao34 t307.length co34 : Value).ownBlock ∧ some k_ ≠ (v311 : Value).ownBlock) (Kd.R_keptB (HO291.out) hkp (fun k_ hk_ hs_ => (hk_.1.2.2) hs_)) (fun k_ hk_ => ⟨hk_.1.1.1, hk_.1.1.2.1, hk_.1.2, fun e_ => Or.elim (ho0.1 k_ e_.symm) (fun hs_ => hk_.2.1 hs_) (fun hn_ => Nat.not_le.2 hk_.2.2 hn_)⟩)); have n2_ := Azz.mk (Kd.R_mono (ok' := fun k_ => some k_ ≠ (.slice Ao20 t289.length co20 : Value).ownBlock ∧ some k_ ≠ (.slice Ao30 t301.length co30 : Value).ownBlock ∧ some k_ ≠ (.slice Ao34 t307.length co34 : Value).ownBlock ∧ some k_ ≠ (v311 : Value).ownBlock) (Kd.R_keptB (HO297.out) hkp (fun k_ hk_ hs_ => (hk_.1.2.2) hs_)) (fun k_ hk_ => ⟨hk_.1.1.1, hk_.1.1.2.1, hk_.1.2, fun e_ => Or.elim (ho0.1 k_ e_.symm) (fun hs_ => hk_.2.1 hs_) (fun hn_ => Nat.not_le.2 hk_.2.2 hn_)⟩)); have n3_ := Azz.mk (Kd.R_mono (ok' := fun k_ => some k_ ≠ (.slice Ao20 t289.length co20 : Value).ownBlock ∧ some k_ ≠ (.slice Ao25 t295.length co25 : Value).ownBlock ∧ some k_ ≠ (.slice Ao34 t307.length co34 : Value).ownBlock ∧ some k_ ≠ (v311 : Value).ownBlock) (Kd.R_keptB (HO303.out) hkp (fun k_ hk_ hs_ => (hk_.1.2.2) hs_)) (fun k_ hk_ => ⟨hk_.1.1.1, hk_.1.1.2.1, hk_.1.2, fun e_ => Or.elim (ho0.1 k_ e_.symm) (fun hs_ => hk_.2.1 hs_) (fun hn_ => Nat.not_le.2 hk_.2.2 hn_)⟩)); have n4_ := Azz.mk (Kd.R_mono (ok' := fun k_ => some k_ ≠ (.slice Ao20 t289.length co20 : Value).ownBlock ∧ some k_ ≠ (.slice Ao25 t295.length co25 : Value).ownBlock ∧ some k_ ≠ (.slice Ao30 t301.length co30 : Value).ownBlock ∧ some k_ ≠ (v311 : Value).ownBlock) (Kd.R_keptB (HO309.out) hkp (fun k_ hk_ hs_ => (hk_.2) hs_)) (fun k_ hk_ => ⟨hk_.1.1.1.1.2, hk_.1.1.1.2, hk_.1.1.2, fun e_ => Or.elim (ho0.1 k_ e_.symm) (fun hs_ => hk_.2.1 hs_) (fun hn_ => Nat.not_le.2 hk_.2.2 hn_)⟩)); have n5_ := Azz.mk (Kd.R_mono (ok' := fun k_ => some k_ ≠ (.slice Ao20 t289.length co20 : Value).ownBlock ∧ some k_ ≠ (.slice Ao25 t295.length co25 : Value).ownBlock ∧ some k_ ≠ (.slice Ao30 t301.length co30 : Value).ownBlock ∧ some k_ ≠ (.slice Ao34 t307.length co34 : Value).ownBlock) ho0 (fun k_ hk_ => ⟨Or.elim hk_ (fun hs_ => fun e_ => (((HO291.out).1 k_ e_.symm).1.2.2) hs_) (fun hn_ => (Kd.fresh' (Kd.R_lt (by (with_reducible repeat (first | apply Kd.R_alloc | apply Kd.R_drewN | apply Kd.R_drew)); exact HO291.out)) k_ hn_)), Or.elim hk_ (fun hs_ => fun e_ => (((HO297.out).1 k_ e_.symm).1.2.2) hs_) (fun hn_ => (Kd.fresh' (Kd.R_lt (by (with_reducible repeat (first | apply Kd.R_alloc | apply Kd.R_drewN | apply Kd.R_drew)); exact HO297.out)) k_ hn_)), Or.elim hk_ (fun hs_ => fun e_ => (((HO303.out).1 k_ e_.symm).1.2.2) hs_) (fun hn_ => (Kd.fresh' (Kd.R_lt (by (with_reducible repeat (first | apply Kd.R_alloc | apply Kd.R_drewN | apply Kd.R_drew)); exact HO303.out)) k_ hn_)), Or.elim hk_ (fun hs_ => fun e_ => (((HO309.out).1 k_ e_.symm).2) hs_) (fun hn_ => (Kd.fresh' (Kd.R_lt (by (with_reducible repeat (first | apply Kd.R_alloc | apply Kd.R_drewN | apply Kd.R_drew)); exact HO309.out)) k_ hn_))⟩)); have n6_ := Azz.mk (hb); clear BK285; clear HO291; clear HO297; clear HO303; clear HO309; clear HB; clear HO306; have BK285 := n0_; have HO291 := n1_; have HO297 := n2_; have HO303 := n3_; have HO309 := n4_; have HO312 := n5_; have HB := n6_; clear n0_ n1_ n2_ n3_ n4_ n5_ n6_; (try clear hb); (try clear hkp); (try clear ho0); obtain ⟨Ao36, co36, eo36⟩ := Kd.R_slice HO312.out; subst eo36) | ((with_reducible refine gate_callee (f := 24) rfl ?_); refine goesL_ (some 34) rfl rfl Try.func24 (by kernel_rfl) rfl #[.slice Ao36 t310.length co36] rfl (by (try simp only [List.map_toArray, List.map_cons, List.map_nil]); first | done | rfl | (simp only [List.length_drop, List.length_take]; rfl)) ?_; (with_reducible refine (rf_Sum.calls k _ _ t310 t313 _ ?side1 ?side2 A10.out).mono ?_); (case side1 => repeat (first | exact (Kd.R_reads' HO312.out).2.2 | (with_reducible refine Kd.C_alloc ?_ _) | (with_reducible refine Kd.C_drewN ?_ _) | (with_reducible refine Kd.C_drew ?_))); (case side2 => exact (Kd.R_reads' HO312.out).2.1); rintro e w' ⟨rfl, ⟨nd, rfl⟩⟩; refine ⟨_, rfl, ?_⟩) | ((with_reducible refine gate_callee (f := 33) rfl ?_); refine goesL_ (some 36) rfl rfl Try.func33 (by kernel_rfl) rfl #[.int .u64 (IntKind.u64.wrap (t313)), .int .i64 4] rfl (by (try simp only [List.map_toArray, List.map_cons, List.map_nil]); first | done | rfl | (simp only [List.length_drop, List.length_take]; rfl)) ?_; (with_reducible refine (rf_number.calls k (IntKind.u64.wrap (t313)) 4 t314 _ A11.out).mono ?_); rintro e w37 ⟨v315, rfl, ho0, hb⟩; refine ⟨_, rfl, ?_⟩; have n0_ := Azz.mk (Kd.R_elder' (by (with_reducible repeat (first | apply Kd.R_alloc | apply Kd.R_drewN | apply Kd.R_drew)); exact HO291.out) (Kd.R_base ho0) hb); have n1_ := Azz.mk (Kd.R_elder' (by (with_reducible repeat (first | apply Kd.R_alloc | apply Kd.R_drewN | apply Kd.R_drew)); exact HO297.out) (Kd.R_base ho0) hb); have n2_ := Azz.mk (Kd.R_elder' (by (with_reducible repeat (first | apply Kd.R_alloc | apply Kd.R_drewN | apply Kd.R_drew)); exact HO303.out) (Kd.R_base ho0) hb); have n3_ := Azz.mk (Kd.R_elder' (by (with_reducible repeat (first | apply Kd.R_alloc | apply Kd.R_drewN | apply Kd.R_drew)); exact HO309.out) (Kd.R_base ho0) hb); have n4_ := Azz.mk (Kd.R_elder' (by (with_reducible repeat (first | apply Kd.R_alloc | apply Kd.R_drewN | apply Kd.R_drew)); exact HO312.out) (Kd.R_base ho0) hb); have n5_ := Azz.mk (Kd.R_lower (Kd.R_new' (Kd.R_new' (Kd.R_new' (Kd.R_new' (Kd.R_new' ho0 (Kd.R_lt (by (with_reducible repeat (first | apply Kd.R_alloc | apply Kd.R_drewN | apply Kd.R_drew)); exact HO291.out))) (Kd.R_lt (by (with_reducible repeat (first | apply Kd.R_alloc | apply Kd.R_drewN | apply Kd.R_drew)); exact HO297.out))) (Kd.R_lt (by (with_reducible repeat (first | apply Kd.R_alloc | apply Kd.R_drewN | apply Kd.R_drew)); exact HO303.out))) (Kd.R_lt (by (with_reducible repeat (first | apply Kd.R_alloc | apply Kd.R_drewN | apply Kd.R_drew)); exact HO309.out))) (Kd.R_lt (by (with_reducible repeat (first | apply Kd.R_alloc | apply Kd.R_drewN | apply Kd.R_drew)); exact HO312.out))) (below_size (by repeat (first | (with_reducible first | exact HB.out | apply bal | apply pbN | apply bd1 | refine bst ?_ GE285.out) | exact HB.out)))); have n6_ := Azz.mk (blk_below (g := gb285) (o := .cells #[.int .i64 a0_0, .int .i64 a0_1, .int .i64 a0_2, .int .u32 a0_3, .int .i64 a0_4] 24 (0, 0)) (by (with_reducible repeat (first | refine kdN ?_ _ | refine kd1 ?_ | refine kal ?_ _)); exact BK285.out) hb); have n7_ := Azz.mk (below_step (by repeat (first | (with_reducible first | exact HB.out | apply bal | apply pbN | apply bd1 | refine bst ?_ GE285.out) | exact HB.out)) hb); clear HO291; clear HO297; clear HO303; clear HO309; clear HO312; clear BK285; clear HB; have HO291 := n0_; have HO297 := n1_; have HO303 := n2_; have HO309 := n3_; have HO312 := n4_; have HO316 := n5_; have BK285 := n6_; have HB := n7_; clear n0_ n1_ n2_ n3_ n4_ n5_ n6_ n7_; (try clear hb); (try clear hb2); (try clear hk); (try clear hi); (try clear ho0); obtain ⟨Ao38, co38, eo38⟩ := Kd.R_slice HO316.out; subst eo38) | ((with_reducible refine gate_callee (f := 32) rfl ?_); refine goesL_ (some 37) rfl rfl Try.func32 (by kernel_rfl) rfl #[.slice Ao36 t310.length co36, .slice Ao38 t314.length co38] rfl (by (try simp only [List.map_toArray, List.map_cons, List.map_nil]); first | done | rfl | (simp only [List.length_drop, List.length_take]; rfl)) ?_; (with_reducible refine (rf_lay.calls k (fun k_ => some k_ = (.slice Ao36 t310.length co36 : Value).ownBlock) (.slice Ao36 t310.length co36) t310 _ _ t314 t317 w _ ?side1 ?side2 ?side3 ?side4 A12.out).mono ?_); (case side1 => repeat (first | (with_reducible first | exact HB.out | apply bal | apply pbN | apply bd1 | refine bst ?_ GE285.out) | exact HB.out)); (case side2 => exact Kd.R_tight rfl HO312.out); (case side3 => exact Kd.C_kept_own (HO316.out) (fun k_ hk_ hs_ => (hk_.2) hs_)); (case side4 => exact (Kd.R_reads' HO316.out).2.1); rintro e w39 ⟨v318, rfl, ho0, hb, hkp⟩; refine ⟨_, rfl, ?_⟩; have n0_ := Azz.mk (blk_kept (by (with_reducible repeat (first | refine kdN ?_ _ | refine kd1 ?_ | refine kal ?_ _)); exact BK285.out) hkp (fun hs_ => (fun e_ => (Kd.R_ne HO312.out BK285.out (by decide)) e_) hs_)); have n1_ := Azz.mk (Kd.R_mono (ok' := fun k_ => some k_ ≠ (.slice Ao25 t295.length co25 : Value).ownBlock ∧ some k_ ≠ (.slice Ao30 t301.length co30 : Value).ownBlock ∧ some k_ ≠ (.slice Ao34 t307.length co34 : Value).ownBlock ∧ some k_ ≠ (.slice Ao38 t314.length co38 : Value).ownBlock ∧ some k_ ≠ (v318 : Value).ownBlock) (Kd.R_keptB (HO291.out) hkp (fun k_ hk_ hs_ => (hk_.1.2.2.2) hs_)) (fun k_ hk_ => ⟨hk_.1.1.1, hk_.1.1.2.1, hk_.1.1.2.2.1, hk_.1.2, fun e_ => Or.elim (ho0.1 k_ e_.symm) (fun hs_ => hk_.2.1 hs_) (fun hn_ => Nat.not_le.2 hk_.2.2 hn_)⟩)); have n2_ := Azz.mk (Kd.R_mono (ok' := fun k_ => some k_ ≠ (.slice Ao20 t289.length co20 : Value).ownBlock ∧ some k_ ≠ (.slice Ao30 t301.length co30 : Value).ownBlock ∧ some k_ ≠ (.slice Ao34 t307.length co34 : Value).ownBlock ∧ some k_ ≠ (.slice Ao38 t314.length co38 : Value).ownBlock ∧ some k_ ≠ (v318 : Value).ownBlock) (Kd.R_keptB (HO297.out) hkp (fun k_ hk_ hs_ => (hk_.1.2.2.2) hs_)) (fun k_ hk_ => ⟨hk_.1.1.1, hk_.1.1.2.1, hk_.1.1.2.2.1, hk_.1.2, fun e_ => Or.elim (ho0.1 k_ e_.symm) (fun hs_ => hk_.2.1 hs_) (fun hn_ => Nat.not_le.2 hk_.2.2 hn_)⟩)); have n3_ := Azz.mk (Kd.R_mono (ok' := fun k_ => some k_ ≠ (.slice Ao20 t289.length co20 : Value).ownBlock ∧ some k_ ≠ (.slice Ao25 t295.length co25 : Value).ownBlock ∧ some k_ ≠ (.slice Ao34 t307.length co34 : Value).ownBlock ∧ some k_ ≠ (.slice Ao38 t314.length co38 : Value).ownBlock ∧ some k_ ≠ (v318 : Value).ownBlock) (Kd.R_keptB (HO303.out) hkp (fun k_ hk_ hs_ => (hk_.1.2.2.2) hs_)) (fun k_ hk_ => ⟨hk_.1.1.1, hk_.1.1.2.1, hk_.1.1.2.2.1, hk_.1.2, fun e_ => Or.elim (ho0.1 k_ e_.symm) (fun hs_ => hk_.2.1 hs_) (fun hn_ => Nat.not_le.2 hk_.2.2 hn_)⟩)); have n4_ := Azz.mk (Kd.R_mono (ok' := fun k_ => some k_ ≠ (.slice Ao20 t289.length co20 : Value).ownBlock ∧ some k_ ≠ (.slice Ao25 t295.length co25 : Value).ownBlock ∧ some k_ ≠ (.slice Ao30 t301.length co30 : Value).ownBlock ∧ some k_ ≠ (.slice Ao38 t314.length co38 : Value).ownBlock ∧ some k_ ≠ (v318 : Value).ownBlock) (Kd.R_keptB (HO309.out) hkp (fun k_ hk_ hs_ => (hk_.1.2.2.2) hs_)) (fun k_ hk_ => ⟨hk_.1.1.1, hk_.1.1.2.1, hk_.1.1.2.2.1, hk_.1.2, fun e_ => Or.elim (ho0.1 k_ e_.symm) (fun hs_ => hk_.2.1 hs_) (fun hn_ => Nat.not_le.2 hk_.2.2 hn_)⟩)); have n5_ := Azz.mk (Kd.R_mono (ok' := fun k_ => some k_ ≠ (.slice Ao20 t289.length co20 : Value).ownBlock ∧ some k_ ≠ (.slice Ao25 t295.length co25 : Value).ownBlock ∧ some k_ ≠ (.slice Ao30 t301.length co30 : Value).ownBlock ∧ some k_ ≠ (.slice Ao34 t307.length co34 : Value).ownBlock ∧ some k_ ≠ (v318 : Value).ownBlock) (Kd.R_keptB (HO316.out) hkp (fun k_ hk_ hs_ => (hk_.2) hs_)) (fun k_ hk_ => ⟨hk_.1.1.1.1.1.2, hk_.1.1.1.1.2, hk_.1.1.1.2, hk_.1.1.2, fun e_ => Or.elim (ho0.1 k_ e_.symm) (fun hs_ => hk_.2.1 hs_) (fun hn_ => Nat.not_le.2 hk_.2.2 hn_)⟩)); have n6_ := Azz.mk (Kd.R_mono (ok' := fun k_ => some k_ ≠ (.slice Ao20 t289.length co20 : Value).ownBlock ∧ some k_ ≠ (.slice Ao25 t295.length co25 : Value).ownBlock ∧ some k_ ≠ (.slice Ao30 t301.length co30 : Value).ownBlock ∧ some k_ ≠ (.slice Ao34 t307.length co34 : Value).ownBlock ∧ some k_ ≠ (.slice Ao38 t314.length co38 : Value).ownBlock) ho0 (fun k_ hk_ => ⟨Or.elim hk_ (fun hs_ => fun e_ => (((HO291.out).1 k_ e_.symm).1.2.2.2) hs_) (fun hn_ => (Kd.fresh' (Kd.R_lt (by (with_reducible repeat (first | apply Kd.R_alloc | apply Kd.R_drewN | apply Kd.R_drew)); exact HO291.out)) k_ hn_)), Or.elim hk_ (fun hs_ => fun e_ => (((HO297.out).1 k_ e_.symm).1.2.2.2) hs_) (fun hn_ => (Kd.fresh' (Kd.R_lt (by (with_reducible repeat (first | apply Kd.R_alloc | apply Kd.R_drewN | apply Kd.R_drew)); exact HO297.out)) k_ hn_)), Or.elim hk_ (fun hs_ => fun e_ => (((HO303.out).1 k_ e_.symm).1.2.2.2) hs_) (fun hn_ => (Kd.fresh' (Kd.R_lt (by (with_reducible repeat (first | apply Kd.R_alloc | apply Kd.R_drewN | apply Kd.R_drew)); exact HO303.out)) k_ hn_)), Or.elim hk_ (fun hs_ => fun e_ => (((HO309.out).1 k_ e_.symm).1.2.2.2) hs_) (fun hn_ => (Kd.fresh' (Kd.R_lt (by (with_reducible repeat (first | apply Kd.R_alloc | apply Kd.R_drewN | apply Kd.R_drew)); exact HO309.out)) k_ hn_)), Or.elim hk_ (fun hs_ => fun e_ => (((HO316.out).1 k_ e_.symm).2) hs_) (fun hn_ => (Kd.fresh' (Kd.R_lt (by (with_reducible repeat (first | apply Kd.R_alloc | apply Kd.R_drewN | apply Kd.R_drew)); exact HO316.out)) k_ hn_))⟩)); have n7_ := Azz.mk (hb); clear BK285; clear HO291; clear HO297; clear HO303; clear HO309; clear HO316; clear HB; clear HO312; have BK285 := n0_; have HO291 := n1_; have HO297 := n2_; have HO303 := n3_; have HO309 := n4_; have HO316 := n5_; have HO319 := n6_; have HB := n7_; clear n0_ n1_ n2_ n3_ n4_ n5_ n6_ n7_; (try clear hb); (try clear hkp); (try clear ho0)))
 go_ret
 exact ⟨_, by first | rfl | (simp [errW_none, errW_some] <;> rfl) | (simp [*, errW_none, errW_some] <;> rfl), by (with_reducible repeat (first | apply Kd.R_alloc | apply Kd.R_drewN | apply Kd.R_drew)); exact Kd.R_mono HO319.out (fun _ hk => trivial), by repeat (first | (with_reducible first | exact HB.out | apply bal | apply pbN | apply bd1 | refine bst ?_ GE285.out) | exact HB.out)⟩

end Go.Proofs.Ytgeheedfmdlefaa.PF
end

section
namespace Go.Proofs.Ytgeheedfmdlefaa.PF
open Go.RowKit Go.Proofs.YtgeheedfmdlefaaW.PrintWords Go.Proofs.YtgeheedfmdlefaaW.PrintLast Go.Proofs.YtgeheedfmdlefaaW.PrintMore Go.Proofs.Ytgeheedfmdlefaa.Conv
attribute [local go_sem] max2_int min2_int max_two min_two max_three min_three max_four min_four   -- for this text's walks alone
set_option linter.unusedVariables false
set_option linter.unusedSimpArgs false

/-! ### rf_value: function 36 -/
def rf_value.l0 : Nat → List Int → Int → Int → Option (Int)
 | 0, _, _, _ => none
 | k + 1, x0, x3, x4 => if x4 < (x0.length : Int) then (if 0 ≤ x4 then (rf_value.l0 k x0 (IntKind.u64.wrap ((IntKind.u64.wrap (x3 * 256)) + (IntKind.u64.wrap (rd x0 x4)))) (wrap64 (x4 + 1))) else (none)) else (some x3)
def rf_value.f (k : Nat) (l0 : List Int) : Option (Int) := rf_value.l0 k l0 0 0
theorem rf_value.mono_l : ∀ k, (∀ y0 y1 y2, LeO (rf_value.l0 k y0 y1 y2) (rf_value.l0 (k + 1) y0 y1 y2))
 | 0 => fun _ _ _ r h => by simp [rf_value.l0] at h
 | k + 1 => by
  have ih0 := rf_value.mono_l k
  ·intro y0 y1 y2
   unfold rf_value.l0
   repeat' first
   | (with_reducible exact ih0 _ _ _)
   | (with_reducible exact LeO.refl _)
   | (with_reducible exact LeO.none _)
   | (with_reducible refine LeO.ite ?_ ?_)
   | (with_reducible refine LeO.bind ?_ (fun _ => ?_))
   | exact ih0 _ _ _
   | exact LeO.none _
   | refine LeO.ite ?_ ?_
   | refine LeO.bind ?_ (fun _ => ?_)
theorem rf_value.mono : ∀ a0 k, LeO (rf_value.f k a0) (rf_value.f (k + 1) a0) := by
 intro a0 k
 have ih0 := rf_value.mono_l k
 unfold rf_value.f
 repeat' first
   | (with_reducible exact ih0 _ _ _)
   | (with_reducible exact LeO.refl _)
   | (with_reducible exact LeO.none _)
   | (with_reducible refine LeO.ite ?_ ?_)
   | (with_reducible refine LeO.bind ?_ (fun _ => ?_))
   | exact ih0 _ _ _
   | exact LeO.none _
   | refine LeO.ite ?_ ?_
   | refine LeO.bind ?_ (fun _ => ?_)
set_option maxHeartbeats 8000000 in
set_option maxRecDepth 100000 in
theorem rf_value.calls (k : Nat) (A0 : Option Addr) (c0 : Nat) (l0 : List Int) (r : Int) (w : World) (hr0 : Kd.C (Kd.int .u8) w A0 l0.length l0) (hc0 : l0.length ≤ c0) (h : rf_value.f k l0 = some r) :
  Calls Try.prog 36 #[.slice A0 l0.length c0] w fun e w' => e = .returned (.int .u64 r) ∧ Drawn0 w w' := by
 have HR0 := Azz.mk hr0
 have HC0 := Azz.mk hc0
 clear hr0 hc0
 have H : (rf_value.l0 k l0 0 0) = some r := h
 clear h
 have H' := Azz.mk H
 clear H
 go_enter Try.func36, Try.ntmps36
 go_wp2
 go_loopg [3, 4] k (fun kq v3 v4 w' => ∃ (x3_1 : Int) (x4_1 : Int), v3 = .int .u64 x3_1 ∧ v4 = .int .i64 x4_1 ∧ Azz (rf_value.l0 kq l0 x3_1 x4_1 = some r) ∧ Azz (kq ≤ k) ∧ Drawn0 w w')
 case atStart => exact ⟨(0), (0), (by first | rfl | (simp; done) | (simp [*]; done)), (by first | rfl | (simp; done) | (simp [*]; done)), H', ⟨Nat.le_refl _⟩, by repeat (first | exact Drawn0.refl _ | apply Drawn0.step)⟩
 case round =>
  clear H'
  obtain ⟨x3_1, x4_1, rfl, rfl, HA, HK1, ⟨m1, rfl⟩⟩ := hrel
  cases gk with
  | zero => exact absurd HA.out (by simp [rf_value.l0])
  | succ k1 =>
   have H := HA.out
   clear HA
   simp only [rf_value.l0] at H
   by_cases c2 : x4_1 < (l0.length : Int)
   ·rw [if_pos c2] at H
    have c2b0 : decide (x4_1 < (l0.length : Int)) = true := decide_eq_true c2
    clear c2
    by_cases c3 : 0 ≤ x4_1
    ·rw [if_pos c3] at H
     have c3b0 : decide (0 ≤ x4_1) = true := decide_eq_true c3
     clear c3
     have H' := Azz.mk H
     clear H
     have p390 : 0 ≤ (x4_1 : Int) := of_decide_eq_true (by first | (with_reducible assumption) | assumption)
     have q390 : x4_1 < (l0.length : Int) := of_decide_eq_true (by first | (with_reducible assumption) | assumption)
     obtain ⟨ad390, e390, hx390_0⟩ := Kd.at_int HR0.out x4_1 p390 q390
     cases e390
     replace p390 := eq_true p390
     replace q390 := eq_true q390
     go_wp2
     go_roundg k1
     case measure => have := HK1.out; omega
     case rel => exact ⟨(IntKind.u64.wrap ((IntKind.u64.wrap (x3_1 * 256)) + (IntKind.u64.wrap (rd l0 x4_1)))), (wrap64 (x4_1 + 1)), (by first | rfl | (simp; done) | (simp [*]; done)), (by first | rfl | (simp; done) | (simp [*]; done)), H', ⟨by have := HK1.out; omega⟩, by repeat (first | exact Drawn0.refl _ | apply Drawn0.step)⟩
    ·rw [if_neg c3] at H
     exact absurd H (by simp)
   ·rw [if_neg c2] at H
    have c2b0 : decide (x4_1 < (l0.length : Int)) = false := decide_eq_false c2
    clear c2
    obtain rfl := Option.some.inj H
    go_wp2
    go_ret
    exact ⟨by first | rfl | (simp; done) | (simp [*]; done), by repeat (first | exact Drawn0.refl _ | apply Drawn0.step)⟩

/-! ### rf_sum: function 35 -/
def rf_sum.f (k : Nat) (l0 : List Int) : Option (Bool) := if 0 ≤ (wrap64 ((l0.length : Int) - 4)) then (if (wrap64 ((l0.length : Int) - 4)) ≤ (l0.length : Int) then ((rf_value.f k (l0.drop ((wrap64 ((l0.length : Int) - 4)) : Int).toNat)).bind fun t395 => ((rf_Sum.f k (l0.take ((wrap64 ((l0.length : Int) - 4)) : Int).toNat)).bind fun t400 => (some (t395 == (IntKind.u64.wrap (t400)))))) else (none)) else (none)
theorem rf_sum.mono : ∀ a0 k, LeO (rf_sum.f k a0) (rf_sum.f (k + 1) a0) := by
 intro a0 k
 unfold rf_sum.f
 repeat' first
   | (with_reducible exact rf_Sum.mono _ _)
   | (with_reducible exact rf_value.mono _ _)
   | (with_reducible exact LeO.refl _)
   | (with_reducible exact LeO.none _)
   | (with_reducible refine LeO.ite ?_ ?_)
   | (with_reducible refine LeO.bind ?_ (fun _ => ?_))
   | exact rf_Sum.mono _ _
   | exact rf_value.mono _ _
   | exact LeO.none _
   | refine LeO.ite ?_ ?_
   | refine LeO.bind ?_ (fun _ => ?_)
set_option maxHeartbeats 8000000 in
set_option maxRecDepth 100000 in
theorem rf_sum.calls (k : Nat) (A0 : Option Addr) (c0 : Nat) (l0 : List Int) (r : Bool) (w : World) (hr0 : Kd.C (Kd.int .u8) w A0 l0.length l0) (hc0 : l0.length ≤ c0) (h : rf_sum.f k l0 = some r) :
  Calls Try.prog 35 #[.slice A0 l0.length c0] w fun e w' => e = .returned (.bool r) ∧ Drawn0 w w' := by
 have HR0 := Azz.mk hr0
 have HC0 := Azz.mk hc0
 clear hr0 hc0
 have H : (if 0 ≤ (wrap64 ((l0.length : Int) - 4)) then (if (wrap64 ((l0.length : Int) - 4)) ≤ (l0.length : Int) then ((rf_value.f k (l0.drop ((wrap64 ((l0.length : Int) - 4)) : Int).toNat)).bind fun t395 => ((rf_Sum.f k (l0.take ((wrap64 ((l0.length : Int) - 4)) : Int).toNat)).bind fun t400 => (some (t395 == (IntKind.u64.wrap (t400)))))) else (none)) else (none)) = some r := h
 clear h
 obtain ⟨ji2, hji2⟩ : ∃ j_ : Int, (wrap64 ((l0.length : Int) - 4)) = j_ := ⟨_, rfl⟩
 replace H : (if 0 ≤ (ji2) then (if (ji2) ≤ (l0.length : Int) then ((rf_value.f k (l0.drop ((ji2) : Int).toNat)).bind fun t395 => ((rf_Sum.f k (l0.take ((ji2) : Int).toNat)).bind fun t400 => (some (t395 == (IntKind.u64.wrap (t400)))))) else (none)) else (none)) = some r := by first | (rw [hji2] at H; exact H) | (simp only [hji2] at H ⊢; exact H)
 have hji2w : (IntKind.i64.wrap ((l0.length : Int) - 4)) = ji2 := (i64_w _).trans hji2
 by_cases c3 : 0 ≤ (ji2)
 ·rw [if_pos c3] at H
  have c3b0 := eq_true c3
  have c3b1 : decide (0 ≤ (ji2)) = true := decide_eq_true c3
  clear c3
  by_cases c4 : (ji2) ≤ (l0.length : Int)
  ·rw [if_pos c4] at H
   have c4b0 := eq_true c4
   have c4b1 : decide ((ji2) ≤ (l0.length : Int)) = true := decide_eq_true c4
   clear c4
   obtain ⟨y391, hy391⟩ : ∃ y_ : List Int, y_ = (l0.drop ((ji2) : Int).toNat) := ⟨_, rfl⟩
   replace H : ((rf_value.f k y391).bind fun t395 => ((rf_Sum.f k (l0.take ((ji2) : Int).toNat)).bind fun t400 => (some (t395 == (IntKind.u64.wrap (t400)))))) = some r := by first | (rw [hy391]; with_reducible exact H) | (have H2_ := (Option.bind_some _ _).symm.trans H; rw [hy391]; with_reducible exact H2_) | (have H2_ := (Option.bind_some _ _).symm.trans H; with_reducible exact H2_) | with_reducible exact H | (rw [hy391]; exact H) | exact H
   have Ny391 := Azz.mk hy391
   clear hy391
   replace H := Option.bind_eq_some_iff.mp H
   obtain ⟨t395, A50, H⟩ := H
   replace H : ((rf_Sum.f k (l0.take ((ji2) : Int).toNat)).bind fun t400 => (some (t395 == (IntKind.u64.wrap (t400))))) = some r := H
   have A5 := Azz.mk A50
   clear A50
   have c6b0 := eq_true (of_decide_eq_true (by first | (with_reducible assumption) | assumption) : 0 ≤ (ji2))
   have c7b0 := eq_true (of_decide_eq_true (by first | (with_reducible assumption) | assumption) : (ji2) ≤ (l0.length : Int))
   obtain ⟨y396, hy396⟩ : ∃ y_ : List Int, y_ = (l0.take ((ji2) : Int).toNat) := ⟨_, rfl⟩
   replace H : ((rf_Sum.f k y396).bind fun t400 => (some (t395 == (IntKind.u64.wrap (t400))))) = some r := by first | (rw [hy396]; with_reducible exact H) | (have H2_ := (Option.bind_some _ _).symm.trans H; rw [hy396]; with_reducible exact H2_) | (have H2_ := (Option.bind_some _ _).symm.trans H; with_reducible exact H2_) | with_reducible exact H | (rw [hy396]; exact H) | exact H
   have Ny396 := Azz.mk hy396
   clear hy396
   replace H := Option.bind_eq_some_iff.mp H
   obtain ⟨t400, A80, H⟩ := H
   replace H : (some (t395 == (IntKind.u64.wrap (t400)))) = some r := H
   have A8 := Azz.mk A80
   clear A80
   obtain rfl := Option.some.inj H
   have q9 : ((ji2) : Int) ≤ ((l0.length : Int) : Int) := of_decide_eq_true (by first | (with_reducible assumption) | assumption)
   obtain ⟨i09, hi09, _, hsz9, _⟩ := info_parts info5
   have hroom9 : l0.length ≤ c0 := HC0.out
   have hC9 : Kd.C (Kd.int .u8) _ A0 l0.length l0 := HR0.out
   have q09 : (0 : Int) ≤ ((ji2) : Int) := of_decide_eq_true (by first | (with_reducible assumption) | assumption)
   have hcut9 := cut_from (P := Try.prog) 26 5 .i64 Try.underlying26 hi09 1 hsz9 A0 l0.length c0 (ji2) q09 q9
   have hr9 := Kd.C_drop (m := ((ji2) : Int).toNat) (c := c0) hC9 (by omega) hroom9
   obtain ⟨A9, hA9⟩ : ∃ A1, A1 = (if c0 = ((ji2) : Int).toNat then A0 else (A0 : Option Addr).map (·.add (((ji2) : Int).toNat * 1))) := ⟨_, rfl⟩
   obtain ⟨c9, hc9⟩ : ∃ c1, c1 = c0 - ((ji2) : Int).toNat := ⟨_, rfl⟩
   have hy9 : y391.length = l0.length - ((ji2) : Int).toNat := (by rw [Ny391.out, List.length_drop] <;> omega)
   rw [show (l0).drop ((ji2) : Int).toNat = y391 from Ny391.out.symm] at hr9
   replace hr9 : Kd.C (Kd.int .u8) _ A9 y391.length y391 := (by rw [hA9]; exact hr9)
   rw [← hy9, ← hA9, ← hc9] at hcut9
   have HR394 := Azz.mk hr9
   have HC394 := Azz.mk (show y391.length ≤ c9 from by rw [hy9, hc9]; exact Nat.sub_le_sub_right hroom9 _)
   clear hr9 hC9 hroom9 hi09 hsz9 hc9
   have KY9 := Azz.mk hy9
   have KA9 := Azz.mk hA9
   clear hy9 hA9
   (try simp only [hji2] at hcut9)
   replace q9 := eq_true q9
   go_enter Try.func35, Try.ntmps35
   go_wp2_with (first | (go_at_call 36; (with_reducible refine (rf_value.calls k _ _ y391 t395 _ ?side1 ?side2 A5.out).mono ?_); (case side1 => repeat (first | exact HR394.out | (with_reducible refine Kd.C_alloc ?_ _) | (with_reducible refine Kd.C_drewN ?_ _) | (with_reducible refine Kd.C_drew ?_))); (case side2 => exact HC394.out); rintro e w' ⟨rfl, ⟨nd, rfl⟩⟩; (try first | exact ⟨rfl, _, World.drewN_drewN _ _ _⟩ | exact ⟨rfl, _, Eq.trans (World.drewN_drewN _ _ _) (congrArg (World.drewN _) (Nat.add_assoc _ _ _))⟩); have q10 : ((ji2) : Int) ≤ ((l0.length : Int) : Int) := of_decide_eq_true (by first | (with_reducible assumption) | assumption); obtain ⟨i010, hi010, _, hsz10, _⟩ := info_parts info5; have hroom10 : l0.length ≤ c0 := HC0.out; have hC10 : Kd.C (Kd.int .u8) _ A0 l0.length l0 := HR0.out; have hcut10 := cut_to (P := Try.prog) 26 5 .i64 Try.underlying26 hi010 A0 l0.length c0 (ji2) (of_decide_eq_true (by first | (with_reducible assumption) | assumption)) q10 hroom10; have hr10 := Kd.C_take (m := ((ji2) : Int).toNat) hC10 (by omega); have hy10 : y396.length = ((ji2) : Int).toNat := (by rw [Ny396.out, List.length_take]; omega); rw [← Ny396.out] at hr10; rw [← hy10] at hcut10; have HR399 := Azz.mk hr10; have HC399 := Azz.mk (show y396.length ≤ c0 from by omega); clear hr10 hC10 hroom10 hi010 hsz10; have KY10 := Azz.mk hy10; clear hy10; (try simp only [hji2] at hcut10); replace q10 := eq_true q10) | (go_at_call 24; (with_reducible refine (rf_Sum.calls k _ _ y396 t400 _ ?side1 ?side2 A8.out).mono ?_); (case side1 => repeat (first | exact HR399.out | (with_reducible refine Kd.C_alloc ?_ _) | (with_reducible refine Kd.C_drewN ?_ _) | (with_reducible refine Kd.C_drew ?_))); (case side2 => exact HC399.out); rintro e w' ⟨rfl, ⟨nd, rfl⟩⟩; (try first | exact ⟨rfl, _, World.drewN_drewN _ _ _⟩ | exact ⟨rfl, _, Eq.trans (World.drewN_drewN _ _ _) (congrArg (World.drewN _) (Nat.add_assoc _ _ _))⟩)))
   repeat (go_quiet (first | (go_at_call 36; (with_reducible refine (rf_value.calls k _ _ y391 t395 _ ?side1 ?side2 A5.out).mono ?_); (case side1 => repeat (first | exact HR394.out | (with_reducible refine Kd.C_alloc ?_ _) | (with_reducible refine Kd.C_drewN ?_ _) | (with_reducible refine Kd.C_drew ?_))); (case side2 => exact HC394.out); rintro e w' ⟨rfl, ⟨nd, rfl⟩⟩; (try first | exact ⟨rfl, _, World.drewN_drewN _ _ _⟩ | exact ⟨rfl, _, Eq.trans (World.drewN_drewN _ _ _) (congrArg (World.drewN _) (Nat.add_assoc _ _ _))⟩); have q10 : ((ji2) : Int) ≤ ((l0.length : Int) : Int) := of_decide_eq_true (by first | (with_reducible assumption) | assumption); obtain ⟨i010, hi010, _, hsz10, _⟩ := info_parts info5; have hroom10 : l0.length ≤ c0 := HC0.out; have hC10 : Kd.C (Kd.int .u8) _ A0 l0.length l0 := HR0.out; have hcut10 := cut_to (P := Try.prog) 26 5 .i64 Try.underlying26 hi010 A0 l0.length c0 (ji2) (of_decide_eq_true (by first | (with_reducible assumption) | assumption)) q10 hroom10; have hr10 := Kd.C_take (m := ((ji2) : Int).toNat) hC10 (by omega); have hy10 : y396.length = ((ji2) : Int).toNat := (by rw [Ny396.out, List.length_take]; omega); rw [← Ny396.out] at hr10; rw [← hy10] at hcut10; have HR399 := Azz.mk hr10; have HC399 := Azz.mk (show y396.length ≤ c0 from by omega); clear hr10 hC10 hroom10 hi010 hsz10; have KY10 := Azz.mk hy10; clear hy10; (try simp only [hji2] at hcut10); replace q10 := eq_true q10) | (go_at_call 24; (with_reducible refine (rf_Sum.calls k _ _ y396 t400 _ ?side1 ?side2 A8.out).mono ?_); (case side1 => repeat (first | exact HR399.out | (with_reducible refine Kd.C_alloc ?_ _) | (with_reducible refine Kd.C_drewN ?_ _) | (with_reducible refine Kd.C_drew ?_))); (case side2 => exact HC399.out); rintro e w' ⟨rfl, ⟨nd, rfl⟩⟩; (try first | exact ⟨rfl, _, World.drewN_drewN _ _ _⟩ | exact ⟨rfl, _, Eq.trans (World.drewN_drewN _ _ _) (congrArg (World.drewN _) (Nat.add_assoc _ _ _))⟩))); try go_wp2_with (first | (go_at_call 36; (with_reducible refine (rf_value.calls k _ _ y391 t395 _ ?side1 ?side2 A5.out).mono ?_); (case side1 => repeat (first | exact HR394.out | (with_reducible refine Kd.C_alloc ?_ _) | (with_reducible refine Kd.C_drewN ?_ _) | (with_reducible refine Kd.C_drew ?_))); (case side2 => exact HC394.out); rintro e w' ⟨rfl, ⟨nd, rfl⟩⟩; (try first | exact ⟨rfl, _, World.drewN_drewN _ _ _⟩ | exact ⟨rfl, _, Eq.trans (World.drewN_drewN _ _ _) (congrArg (World.drewN _) (Nat.add_assoc _ _ _))⟩); have q10 : ((ji2) : Int) ≤ ((l0.length : Int) : Int) := of_decide_eq_true (by first | (with_reducible assumption) | assumption); obtain ⟨i010, hi010, _, hsz10, _⟩ := info_parts info5; have hroom10 : l0.length ≤ c0 := HC0.out; have hC10 : Kd.C (Kd.int .u8) _ A0 l0.length l0 := HR0.out; have hcut10 := cut_to (P := Try.prog) 26 5 .i64 Try.underlying26 hi010 A0 l0.length c0 (ji2) (of_decide_eq_true (by first | (with_reducible assumption) | assumption)) q10 hroom10; have hr10 := Kd.C_take (m := ((ji2) : Int).toNat) hC10 (by omega); have hy10 : y396.length = ((ji2) : Int).toNat := (by rw [Ny396.out, List.length_take]; omega); rw [← Ny396.out] at hr10; rw [← hy10] at hcut10; have HR399 := Azz.mk hr10; have HC399 := Azz.mk (show y396.length ≤ c0 from by omega); clear hr10 hC10 hroom10 hi010 hsz10; have KY10 := Azz.mk hy10; clear hy10; (try simp only [hji2] at hcut10); replace q10 := eq_true q10) | (go_at_call 24; (with_reducible refine (rf_Sum.calls k _ _ y396 t400 _ ?side1 ?side2 A8.out).mono ?_); (case side1 => repeat (first | exact HR399.out | (with_reducible refine Kd.C_alloc ?_ _) | (with_reducible refine Kd.C_drewN ?_ _) | (with_reducible refine Kd.C_drew ?_))); (case side2 => exact HC399.out); rintro e w' ⟨rfl, ⟨nd, rfl⟩⟩; (try first | exact ⟨rfl, _, World.drewN_drewN _ _ _⟩ | exact ⟨rfl, _, Eq.trans (World.drewN_drewN _ _ _) (congrArg (World.drewN _) (Nat.add_assoc _ _ _))⟩))))
   go_ret
   exact ⟨by first | rfl | (simp; done) | (simp only [← hji2] <;> (first | rfl | simp)) | (simp [*]; done), by repeat (first | exact Drawn0.refl _ | apply Drawn0.step)⟩
  ·rw [if_neg c4] at H
   exact absurd H (by simp)
 ·rw [if_neg c3] at H
  exact absurd H (by simp)

/-! ### rf_same: function 37 -/
def rf_same.f (l0 : List Int) (l1 : List Int) : Option (Bool) := some ((strOfNums l0).toList == (strOfNums l1).toList)
set_option maxHeartbeats 8000000 in
set_option maxRecDepth 100000 in
theorem rf_same.calls (A0 : Option Addr) (c0 : Nat) (l0 : List Int) (A1 : Option Addr) (c1 : Nat) (l1 : List Int) (r : Bool) (w : World) (hr0 : Kd.C (Kd.int .u8) w A0 l0.length l0) (hc0 : l0.length ≤ c0) (hr1 : Kd.C (Kd.int .u8) w A1 l1.length l1) (hc1 : l1.length ≤ c1) (h : rf_same.f l0 l1 = some r) :
  Calls Try.prog 37 #[.slice A0 l0.length c0, .slice A1 l1.length c1] w fun e w' => e = .returned (.bool r) ∧ Drawn0 w w' := by
 have HR0 := Azz.mk hr0
 have HC0 := Azz.mk hc0
 clear hr0 hc0
 have HR1 := Azz.mk hr1
 have HC1 := Azz.mk hc1
 clear hr1 hc1
 have H : (some ((strOfNums l0).toList == (strOfNums l1).toList)) = some r := h
 clear h
 obtain rfl := Option.some.inj H
 have hcv3 := Kd.C_string (P := Try.prog) (A := A0) (c := c0) Try.underlying26 Try.underlying5 Try.underlying9 HR0.out
 have hcv4 := Kd.C_string (P := Try.prog) (A := A1) (c := c1) Try.underlying26 Try.underlying5 Try.underlying9 HR1.out
 go_enter Try.func37, Try.ntmps37
 go_wp2
 go_ret
 exact ⟨by first | rfl | (simp; done) | (simp [*]; done), by repeat (first | exact Drawn0.refl _ | apply Drawn0.step)⟩

end Go.Proofs.Ytgeheedfmdlefaa.PF
end
