/- BucketFair: frames that come a gap apart, or more, all pass, at every gap, jitter and list of further distances. -/
import Derived.Test.YtpddklcfkjebgaaPBx5
import Derived.Test.YtpddklcfkjebgaaBase
namespace Go.Proofs.Ytpddklcfkjebgaa.Pure
open Go.RowKit Go.Proofs.Ytpddklcfkjebgaa.PB Go.Proofs.YtpddklcfkjebgaaW.PrintWords Go.Proofs.YtpddklcfkjebgaaW.PrintLast
set_option linter.unusedVariables false

theorem fair_loop (g j : Int) (hr : Rt g j) (l : List Int) (hl : l.length * 2 ≤ 140737488351232) (hb : ∀ x ∈ l, 0 ≤ x ∧ x ≤ 65535) (d : Nat) :
    ∀ (k : Nat) (t i : Int) (any : Bool) (mark last p : Int), 0 ≤ i → i ≤ l.length → (l.length : Int) - i = d → d < k → -5 ≤ t → t ≤ 1125899906842624 + 1073807359 →
    (any = true → mark ≤ t ∧ last ≤ t ∧ -1125899906842624 ≤ mark) → p = i →
    tocsinlaw14_BucketFair.l0 k g t l (l.length : Int) i g j any mark last p 0 = some true := by
  have r := hr
  obtain ⟨r1, r2, r3, r4⟩ := r
  induction d with
  | zero =>
    intro k t i any mark last p h0 h1 hd hk _ _ _ _
    obtain ⟨k, rfl⟩ : ∃ m, k = m + 1 := ⟨k - 1, by omega⟩
    simp only [tocsinlaw14_BucketFair.l0]
    rw [if_neg (by omega)]
  | succ d ih =>
    intro k t i any mark last p h0 h1 hd hk ht0 ht1 hm hp
    obtain ⟨k, rfl⟩ : ∃ m, k = m + 1 := ⟨k - 1, by omega⟩
    have hlt : i < (l.length : Int) := by omega
    simp only [tocsinlaw14_BucketFair.l0]
    rw [if_pos hlt, if_pos h0, if_pos hlt]
    by_cases hf : t > 1125899906842624
    · rw [if_pos hf]
    · rw [if_neg hf]
      have hgo : Goes j any mark last t := ⟨⟨by omega, by omega⟩, fun ha => by have := hm ha; omega⟩
      have hmk : Mk j any mark := fun ha => by have := hm ha; omega
      rw [take_yes hr hmk hgo]
      simp only [Option.bind_some, if_true, bucket_Bucket_Passed.f, bucket_Bucket_Refused.f]
      rw [hp, if_pos rfl]
      try rw [if_pos rfl]
      have hx : 0 ≤ rd l i ∧ rd l i ≤ 65535 := by
        apply hb
        unfold rd
        rw [List.getD_eq_getElem?_getD, List.getElem?_eq_getElem (by omega : i.toNat < l.length), Option.getD_some]
        exact List.getElem_mem _
      obtain ⟨x0, x1⟩ := hx
      rw [wrap_id (x := rd l i) (by omega) (by omega), wrap_id (x := g + rd l i) (by omega) (by omega), wrap_id (x := t + (g + rd l i)) (by omega) (by omega), wrap_id (x := i + 1) (by omega) (by omega)]
      have e : mark' g any mark t = t + g := by
        unfold mark'
        split
        · rename_i hc
          have := hm hc.1
          omega
        · rfl
      rw [e]
      exact ih k _ (i + 1) true _ t (i + 1) (by omega) (by omega) (by omega) (by omega) (by omega) (by omega) (fun _ => ⟨by omega, by omega, by omega⟩) rfl

theorem BucketFair : tocsinlaw14_BucketFair.Pure := by
  intro a0 a1 l2 w0 w1 hm hl hb
  refine ⟨l2.length + 1, ?_⟩
  unfold tocsinlaw14_BucketFair.f
  rw [fixed_true]
  simp only [Option.bind_some, if_true]
  by_cases hr : Rt a0 a1
  · rw [right_yes hr]
    simp only [Option.bind_some, if_true]
    exact fair_loop a0 a1 hr l2 hl (fun x hx => bounds_u16 (hb x hx)) l2.length _ (-5) 0 false 0 0 0 (by omega) (by omega) (by omega) (by omega) (by omega) (by omega) (fun h => by cases h) rfl
  · rw [right_no hr]
    rfl

end Go.Proofs.Ytpddklcfkjebgaa.Pure
