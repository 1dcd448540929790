/- Plain facts about the printed bucket functions. -/
import Derived.Test.YtpddklcfkjebgaaPBx1
import Derived.OpenShut
namespace Go.Proofs.Ytpddklcfkjebgaa.Pure
set_option linter.unusedVariables false
open Go.RowKit Go.Proofs.Ytpddklcfkjebgaa.PB Go.Proofs.YtpddklcfkjebgaaW.PrintWords Go.Proofs.YtpddklcfkjebgaaW.PrintLast

theorem wrap_id {x : Int} (h0 : -9223372036854775808 ≤ x) (h1 : x ≤ 9223372036854775807) : wrap64 x = x := by
  unfold wrap64
  omega

theorem fixed_true : tocsinlaw14_fixed.f = some true := by decide +kernel

/-- May the two numbers be a bucket's? -/
def Rt (g j : Int) : Prop := 1 ≤ g ∧ g ≤ 1073741824 ∧ 0 ≤ j ∧ j ≤ 1073741824

theorem right_yes {g j : Int} (h : Rt g j) : bucket_right.f g j = some true := by
  obtain ⟨h1, h2, h3, h4⟩ := h
  unfold bucket_right.f
  rw [if_pos h1, if_pos h2, if_pos h3, decide_eq_true h4]
theorem right_no {g j : Int} (h : ¬ Rt g j) : bucket_right.f g j = some false := by
  unfold bucket_right.f
  unfold Rt at h
  split
  · split
    · split
      · rw [decide_eq_false (by omega)]
      · rfl
    · rfl
  · rfl
theorem refRight_yes {g j : Int} (h : Rt g j) : tocsinref14_Right.f g j = some true := by
  obtain ⟨h1, h2, h3, h4⟩ := h
  unfold tocsinref14_Right.f
  rw [if_pos (by omega), if_pos h2, if_pos h3, decide_eq_true h4]
theorem refRight_no {g j : Int} (h : ¬ Rt g j) : tocsinref14_Right.f g j = some false := by
  unfold tocsinref14_Right.f
  unfold Rt at h
  split
  · split
    · split
      · rw [decide_eq_false (by omega)]
      · rfl
    · rfl
  · rfl

def Near (t : Int) : Prop := -1125899906842624 ≤ t ∧ t ≤ 1125899906842624
instance (t : Int) : Decidable (Near t) := inferInstanceAs (Decidable (_ ∧ _))
theorem far_eq (t : Int) : bucket_far.f t = some (decide (¬ Near t)) := by
  unfold bucket_far.f Near
  split
  · rw [decide_eq_true (by omega)]
  · congr 1
    rw [Bool.eq_iff_iff]
    simp only [decide_eq_true_eq]
    omega
theorem refFar_eq (t : Int) : tocsinref14_Far.f t = some (decide (¬ Near t)) := by
  unfold tocsinref14_Far.f Near
  split
  · rw [decide_eq_true (by omega)]
  · congr 1
    rw [Bool.eq_iff_iff]
    simp only [decide_eq_true_eq]
    omega

/-- What a frame at t meets. -/
def Goes (j : Int) (any : Bool) (mark last t : Int) : Prop := Near t ∧ (any = true → last ≤ t ∧ mark - j ≤ t)
instance (j : Int) (any : Bool) (mark last t : Int) : Decidable (Goes j any mark last t) := inferInstanceAs (Decidable (_ ∧ _))
/-- The marks that occur. -/
def Mk (j : Int) (any : Bool) (mark : Int) : Prop := any = true → -1125899906842624 ≤ mark ∧ mark ≤ 1125899906842624 + 2147483648

theorem take_no {g j : Int} {any : Bool} {mark last p r t : Int} (hr : Rt g j) (hm : Mk j any mark) (h : ¬ Goes j any mark last t) :
    bucket_Bucket_Take.f g j any mark last p r t = some (false, g, j, any, mark, last, p, wrap64 (r + 1)) := by
  unfold bucket_Bucket_Take.f
  rw [far_eq]
  simp only [Option.bind_some]
  by_cases hn : Near t
  · rw [if_neg (by simpa using hn)]
    unfold Goes at h
    cases any with
    | false => exact absurd ⟨hn, fun h => by cases h⟩ h
    | true =>
      rw [if_pos rfl]
      obtain ⟨m1, m2⟩ := hm rfl
      obtain ⟨r1, r2, r3, r4⟩ := hr
      by_cases hl : t < last
      · rw [if_pos hl]
      · rw [if_neg hl, wrap_id (by omega) (by omega), if_pos]
        apply Classical.byContradiction
        intro hc
        exact h ⟨hn, fun _ => ⟨by omega, by omega⟩⟩
  · rw [if_pos (by simpa using hn)]

/-- The mark behind a frame at t. -/
def mark' (g : Int) (any : Bool) (mark t : Int) : Int := (if any = true ∧ t ≤ mark then mark else t) + g

theorem mk_next {g j : Int} {any : Bool} {mark last t : Int} (hr : Rt g j) (hm : Mk j any mark) (h : Goes j any mark last t) : Mk j true (mark' g any mark t) := by
  intro _
  obtain ⟨r1, r2, r3, r4⟩ := hr
  obtain ⟨⟨n1, n2⟩, h2⟩ := h
  unfold mark'
  split
  · rename_i hc
    have := h2 hc.1
    have := hm hc.1
    omega
  · omega

theorem take_yes {g j : Int} {any : Bool} {mark last p r t : Int} (hr : Rt g j) (hm : Mk j any mark) (h : Goes j any mark last t) :
    bucket_Bucket_Take.f g j any mark last p r t = some (true, g, j, true, mark' g any mark t, t, wrap64 (p + 1), r) := by
  have hb := mk_next hr hm h rfl
  obtain ⟨hn, h2⟩ := h
  unfold bucket_Bucket_Take.f
  rw [far_eq]
  simp only [Option.bind_some]
  rw [if_neg (by simpa using hn)]
  obtain ⟨n1, n2⟩ := hn
  obtain ⟨r1, r2, r3, r4⟩ := hr
  unfold mark' at hb ⊢
  cases any with
  | false =>
    simp only [Bool.false_eq_true, false_and, if_false] at hb ⊢
    rw [wrap_id (by omega) (by omega)]
  | true =>
    obtain ⟨h3, h4⟩ := h2 rfl
    obtain ⟨m1, m2⟩ := hm rfl
    rw [if_pos rfl, if_neg (by omega), wrap_id (x := mark - j) (by omega) (by omega), if_neg (by omega)]
    by_cases hc : t > mark
    · rw [if_pos hc, if_neg (by omega), wrap_id (by omega) (by omega)]
    · rw [if_neg hc, if_pos ⟨rfl, by omega⟩, wrap_id (by omega) (by omega)]

theorem budget_no {g j d : Int} (h : ¬ (Rt g j ∧ 0 ≤ d ∧ d ≤ 2251799813685248)) : bucket_Budget.f g j d = some 0 := by
  unfold bucket_Budget.f
  by_cases hr : Rt g j
  · rw [right_yes hr]
    simp only [Option.bind_some, if_true]
    by_cases h0 : d < 0
    · rw [if_pos h0]
    · rw [if_neg h0, if_pos (by
        apply Classical.byContradiction
        intro hc
        exact h ⟨hr, by omega, by omega⟩)]
  · rw [right_no hr]
    rfl
theorem budget_yes {g j d : Int} (hr : Rt g j) (h0 : 0 ≤ d) (h1 : d ≤ 2251799813685248) : ∃ n, bucket_Budget.f g j d = some n ∧ n = 1 + (d + j) / g ∧ 1 ≤ n ∧ (n - 1) * g ≤ d + j ∧ d + j < n * g ∧ n ≤ 1 + (d + j) := by
  have r := hr
  obtain ⟨r1, r2, r3, r4⟩ := r
  have q0 : 0 ≤ (d + j) / g := Int.ediv_nonneg (by omega) (by omega)
  have q1 : (d + j) / g * g ≤ d + j := Int.ediv_mul_le _ (by omega)
  have q2 : d + j < ((d + j) / g + 1) * g := Int.lt_ediv_add_one_mul_self _ (by omega)
  have q3 : (d + j) / g ≤ d + j := by
    have := Int.ediv_le_self (a := d + j) g (by omega)
    exact this
  refine ⟨1 + (d + j) / g, ?_, rfl, by omega, by rw [show 1 + (d + j) / g - 1 = (d + j) / g from by omega]; exact q1, by rw [show 1 + (d + j) / g = (d + j) / g + 1 from by omega]; exact q2, by omega⟩
  unfold bucket_Budget.f
  rw [right_yes hr]
  simp only [Option.bind_some, if_true]
  rw [if_neg (by omega), if_neg (by omega), if_neg (by omega), wrap_id (x := d + j) (by omega) (by omega), Int.tdiv_eq_ediv_of_nonneg (by omega), wrap_id (x := (d + j) / g) (by omega) (by omega), wrap_id (by omega) (by omega)]

end Go.Proofs.Ytpddklcfkjebgaa.Pure
