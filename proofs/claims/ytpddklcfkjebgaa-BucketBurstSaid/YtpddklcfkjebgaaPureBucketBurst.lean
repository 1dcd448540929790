/- BucketBurst: at one time just as many frames pass as the budget of no time at all says, at every gap, jitter and time. -/
import Derived.Test.YtpddklcfkjebgaaPBx7
import Derived.Test.YtpddklcfkjebgaaBase
namespace Go.Proofs.Ytpddklcfkjebgaa.Pure
open Go.RowKit Go.Proofs.Ytpddklcfkjebgaa.PB Go.Proofs.YtpddklcfkjebgaaW.PrintWords Go.Proofs.YtpddklcfkjebgaaW.PrintLast
set_option linter.unusedVariables false

theorem burst_loop (x1 x2 : Int) (h1 : 0 ≤ x1 ∧ x1 ≤ 65535) (h2 : -2147483648 ≤ x2 ∧ x2 ≤ 2147483647) (g : Int) (hg : 1 ≤ g ∧ g ≤ 65536) (d : Nat) : ∀ (k : Nat) (n : Int) (any : Bool) (mark last p r : Int),
    0 ≤ n → (n = 0 → any = false) → (0 < n → any = true ∧ mark = x2 + n * g ∧ last = x2) → (n - 1) * g ≤ x1 → x1 + 1 - (n - 1) * g ≤ d → d < k →
    tocsinlaw14_BucketBurst.l0 k x1 x2 g n g x1 any mark last p r = some true := by
  have hr : Rt g x1 := ⟨by omega, by omega, by omega, by omega⟩
  have hx2 : wrap64 x2 = x2 := wrap_id (by omega) (by omega)
  have hx1 : wrap64 x1 = x1 := wrap_id (by omega) (by omega)
  have hnear : Near x2 := ⟨by omega, by omega⟩
  induction d with
  | zero => intro k n any mark last p r h0 _ _ h5 h6; omega
  | succ d ih =>
    intro k n any mark last p r h0 hz hp h5 h6 hk
    obtain ⟨k, rfl⟩ : ∃ m, k = m + 1 := ⟨k - 1, by omega⟩
    have hmul : n - 1 ≤ (n - 1) * g ∨ n = 0 := by
      by_cases hn : n = 0
      · exact .inr hn
      · left
        have := Int.mul_le_mul_of_nonneg_left hg.1 (show 0 ≤ n - 1 by omega)
        omega
    have hmg : n * g = (n - 1) * g + g := by rw [Int.sub_mul]; omega
    have hn7 : n ≤ 65536 := by omega
    have hng : 0 ≤ n * g := Int.mul_nonneg h0 (by omega)
    have hm : Mk x1 any mark := by
      intro ha
      by_cases hn : n = 0
      · rw [hz hn] at ha; cases ha
      · obtain ⟨_, e, _⟩ := hp (by omega)
        omega
    simp only [tocsinlaw14_BucketBurst.l0, hx2, hx1]
    rw [if_pos (by omega)]
    by_cases hgo : Goes x1 any mark last x2
    · rw [take_yes hr hm hgo]
      simp only [Option.bind_some, if_true]
      rw [wrap_id (x := n + 1) (by omega) (by omega)]
      have hle : n * g ≤ x1 := by
        by_cases hn : n = 0
        · rw [hn]; omega
        · obtain ⟨ha, e, _⟩ := hp (by omega)
          have := (hgo.2 ha).2
          omega
      refine ih k (n + 1) true _ x2 _ r (by omega) (by omega) (fun _ => ⟨rfl, ?_, rfl⟩) (by rw [show n + 1 - 1 = n from by omega]; exact hle) (by rw [show n + 1 - 1 = n from by omega]; omega) (by omega)
      unfold mark'
      have e2 : (n + 1) * g = n * g + g := by rw [Int.add_mul]; omega
      by_cases hn : n = 0
      · rw [hz hn, if_neg (by simp), e2, hn]; omega
      · obtain ⟨ha, e, _⟩ := hp (by omega)
        rw [ha, if_pos ⟨rfl, by omega⟩, e, e2]
        omega
    · have hn : 0 < n := by
        apply Classical.byContradiction
        intro hc
        exact hgo ⟨hnear, fun h => by rw [hz (by omega)] at h; cases h⟩
      obtain ⟨ha, e, el⟩ := hp hn
      subst ha
      have hlt : x1 < n * g := by
        apply Classical.byContradiction
        intro hc
        exact hgo ⟨hnear, fun _ => ⟨by omega, by omega⟩⟩
      rw [take_no hr hm hgo]
      simp only [Option.bind_some]
      rw [if_neg (by decide)]
      obtain ⟨b, hb, _, b1, b2, b3, b4⟩ := budget_yes hr (d := 0) (by omega) (by omega)
      rw [hb]
      simp only [Option.bind_some]
      have hbn : n = b := by
        have t1 : ¬ n < b := by
          intro hc
          have := Int.mul_le_mul_of_nonneg_right (show n ≤ b - 1 by omega) (show 0 ≤ g by omega)
          omega
        have t2 : ¬ b < n := by
          intro hc
          have := Int.mul_le_mul_of_nonneg_right (show b ≤ n - 1 by omega) (show 0 ≤ g by omega)
          omega
        omega
      rw [if_pos hbn]
      unfold bucket_Bucket_Next.f
      rw [far_eq]
      simp only [Option.bind_some]
      rw [if_neg (by simpa using hnear)]
      simp only [Option.bind_some, if_true]
      rw [wrap_id (x := mark - x1) (by omega) (by omega)]
      congr 1
      rw [decide_eq_true_eq]
      unfold mx
      split <;> omega

theorem BucketBurst : tocsinlaw14_BucketBurst.Pure := by
  intro a0 a1 a2 w0 w1 w2
  have b0 := bounds_u16 w0
  have b1 := bounds_u16 w1
  have b2 := bounds_i32 w2
  refine ⟨(a1 + a0 + 3).toNat + 70000, ?_⟩
  unfold tocsinlaw14_BucketBurst.f
  rw [fixed_true]
  simp only [Option.bind_some, if_true]
  rw [wrap_id (x := a0) (by omega) (by omega), wrap_id (x := a1) (by omega) (by omega), wrap_id (x := a0 + 1) (by omega) (by omega)]
  rw [right_yes ⟨by omega, by omega, by omega, by omega⟩]
  simp only [Option.bind_some, if_true]
  exact burst_loop a1 a2 (by omega) (by omega) (a0 + 1) (by omega) (a1 + a0 + 2).toNat _ 0 false 0 0 0 0 (by omega) (fun _ => rfl) (fun h => by omega) (by omega) (by omega) (by omega)

end Go.Proofs.Ytpddklcfkjebgaa.Pure
