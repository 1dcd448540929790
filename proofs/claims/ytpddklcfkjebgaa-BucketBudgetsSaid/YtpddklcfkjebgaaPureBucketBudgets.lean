/- BucketBudgets: the budget is reckoned as the document says, at every three numbers. -/
import Derived.Test.YtpddklcfkjebgaaPBx6
import Derived.Test.YtpddklcfkjebgaaBase
namespace Go.Proofs.Ytpddklcfkjebgaa.Pure
open Go.RowKit Go.Proofs.Ytpddklcfkjebgaa.PB Go.Proofs.YtpddklcfkjebgaaW.PrintWords Go.Proofs.YtpddklcfkjebgaaW.PrintLast
set_option linter.unusedVariables false

theorem BucketBudgets : tocsinlaw14_BucketBudgets.Pure := by
  intro a0 a1 a2 w0 w1 w2
  unfold tocsinlaw14_BucketBudgets.f
  rw [fixed_true]
  simp only [Option.bind_some, if_true]
  by_cases hr : Rt a0 a1
  · rw [refRight_yes hr]
    by_cases h0 : a2 < 0
    · rw [budget_no (by rintro ⟨_, h, _⟩; omega)]
      simp only [Option.bind_some, if_true]
      rw [if_pos h0]; rfl
    · by_cases h1 : a2 > 2251799813685248
      · rw [budget_no (by rintro ⟨_, _, h⟩; omega)]
        simp only [Option.bind_some, if_true]
        rw [if_neg h0, if_pos h1]; rfl
      · obtain ⟨n, hn, _, n1, n2, n3, n4⟩ := budget_yes hr (d := a2) (by omega) (by omega)
        have r := hr
        obtain ⟨r1, r2, r3, r4⟩ := r
        rw [hn]
        simp only [Option.bind_some, if_true]
        have e : n * a0 = (n - 1) * a0 + a0 := by rw [Int.sub_mul]; omega
        have p : 0 ≤ (n - 1) * a0 := Int.mul_nonneg (by omega) (by omega)
        rw [if_neg h0, if_neg h1, if_pos n1, wrap_id (x := n - 1) (by omega) (by omega), wrap_id (x := (n - 1) * a0) (by omega) (by omega), wrap_id (x := a2 + a1) (by omega) (by omega), if_pos n2, wrap_id (x := n * a0) (by omega) (by omega), decide_eq_true (by omega)]
  · rw [refRight_no hr, budget_no (fun h => hr h.1)]
    rfl

end Go.Proofs.Ytpddklcfkjebgaa.Pure
