/- BucketBudget: in no stretch of time pass more frames than the budget says, at every gap, jitter and list of times. -/
import Derived.Test.YtpddklcfkjebgaaPBx5
import Derived.Test.YtpddklcfkjebgaaBase
namespace Go.Proofs.Ytpddklcfkjebgaa.Pure
open Go.RowKit Go.Proofs.Ytpddklcfkjebgaa.PB Go.Proofs.YtpddklcfkjebgaaW.PrintWords Go.Proofs.YtpddklcfkjebgaaW.PrintLast
set_option linter.unusedVariables false

/-- What is known of the frames that passed: the mark lies behind each by a gap for each that passed since, and each came no earlier than the mark less the jitter. -/
def Good (g j : Int) (any : Bool) (mark last : Int) (ps : List Int) : Prop :=
  Mk j any mark ∧ (any = false → ps = []) ∧ (∀ x ∈ ps, -1125899906842624 ≤ x ∧ x ≤ last) ∧ (any = true → last ≤ 1125899906842624) ∧
  (∀ (i : Nat) (x : Int), ps[i]? = some x → x + ((ps.length : Int) - i) * g ≤ mark) ∧
  (∀ (i k : Nat) (x y : Int), i ≤ k → ps[i]? = some x → ps[k]? = some y → x ≤ y ∧ x + ((k : Int) - i) * g - j ≤ y)

theorem good_next {g j : Int} (hr : Rt g j) {any : Bool} {mark last : Int} {ps : List Int} (h : Good g j any mark last ps) {t : Int} (hgo : Goes j any mark last t) :
    Good g j true (mark' g any mark t) t (ps ++ [t]) := by
  obtain ⟨hm, he, hx, hl, h1, h2⟩ := h
  have r := hr
  obtain ⟨r1, r2, r3, r4⟩ := r
  have hn := hgo.1
  have hlen : ∀ (i : Nat) (x : Int), (ps ++ [t])[i]? = some x → ps[i]? = some x ∨ (i = ps.length ∧ x = t) := by
    intro i x hi
    rcases Nat.lt_or_ge i ps.length with hlt | hge
    · rw [List.getElem?_append_left hlt] at hi; exact .inl hi
    · rw [List.getElem?_append_right hge] at hi
      by_cases e : i - ps.length = 0
      · rw [e] at hi; simp at hi; exact .inr ⟨by omega, hi.symm⟩
      · rw [List.getElem?_eq_none (by simp; omega)] at hi; cases hi
  have hany : ∀ (i : Nat) (x : Int), ps[i]? = some x → any = true := by
    intro i x hi
    cases any with
    | true => rfl
    | false => rw [he rfl] at hi; simp at hi
  have hlt : ∀ (i : Nat) (x : Int), ps[i]? = some x → i < ps.length := fun i x hi => (List.getElem?_eq_some_iff.1 hi).1
  have hmem : ∀ (i : Nat) (x : Int), ps[i]? = some x → x ∈ ps := fun i x hi => List.mem_of_getElem? hi
  have old : ∀ (i : Nat) (x : Int), ps[i]? = some x → x ≤ t ∧ x + ((ps.length : Int) - i) * g ≤ mark ∧ mark - j ≤ t := by
    intro i x hi
    have ha := hany i x hi
    have := hgo.2 ha
    have := hx x (hmem i x hi)
    exact ⟨by omega, h1 i x hi, by omega⟩
  have hge : mark ≤ mark' g any mark t - g ∨ any = false := by
    cases any with
    | false => exact .inr rfl
    | true =>
      left
      unfold mark'
      split
      · omega
      · rename_i hc
        have : ¬ t ≤ mark := fun h => hc ⟨rfl, h⟩
        omega
  have hgt : t + g ≤ mark' g any mark t := by
    unfold mark'
    split
    · rename_i hc; omega
    · omega
  refine ⟨mk_next hr hm hgo, (fun h => by cases h), ?_, fun _ => hn.2, ?_, ?_⟩
  · intro x hxm
    rw [List.mem_append, List.mem_singleton] at hxm
    rcases hxm with hxm | rfl
    · obtain ⟨i, hi⟩ := List.getElem?_of_mem hxm
      have := old i x hi
      have := hx x hxm
      omega
    · exact ⟨hn.1, by omega⟩
  · intro i x hi
    rw [List.length_append, List.length_singleton]
    rcases hlen i x hi with hi | ⟨rfl, rfl⟩
    · obtain ⟨o1, o2, o3⟩ := old i x hi
      rcases hge with hge | hge
      · have e : (((ps.length + 1 : Nat) : Int) - i) * g = ((ps.length : Int) - i) * g + g := by rw [show (((ps.length + 1 : Nat) : Int) - i) = ((ps.length : Int) - i) + 1 from by omega, Int.add_mul, Int.one_mul]
        omega
      · rw [hany i x hi] at hge; cases hge
    · have e : (((ps.length + 1 : Nat) : Int) - (ps.length : Int)) * g = g := by
        rw [show ((ps.length + 1 : Nat) : Int) - (ps.length : Int) = 1 from by omega]; omega
      omega
  · intro i k x y hik hi hk
    rcases hlen i x hi with hi' | ⟨rfl, rfl⟩
    · rcases hlen k y hk with hk | ⟨rfl, rfl⟩
      · exact h2 i k x y hik hi' hk
      · obtain ⟨o1, o2, o3⟩ := old i x hi'
        exact ⟨o1, by omega⟩
    · rcases hlen k y hk with hk | ⟨rfl, rfl⟩
      · have := hlt k y hk; omega
      · refine ⟨by omega, ?_⟩
        rw [Int.sub_self, Int.zero_mul]
        omega

theorem rd_at (l : List Int) (i : Int) (h0 : 0 ≤ i) (h1 : i < l.length) : l[i.toNat]? = some (rd l i) := by
  unfold rd
  rw [List.getD_eq_getElem?_getD, List.getElem?_eq_getElem (by omega : i.toNat < l.length), Option.getD_some]

theorem budget_inner (g j : Int) (hr : Rt g j) (ps : List Int) (hlen : ps.length ≤ 500) (any : Bool) (mark last : Int) (hg : Good g j any mark last ps) (i : Int) (hi0 : 0 ≤ i) (hi1 : i < ps.length) (e : Nat)
    (outer : ∀ k, e ≤ k → tocsinlaw14_BucketBudget.l1 k g j ps (ps.length : Int) (i + 1) = some true) (d : Nat) :
    ∀ (k : Nat) (m : Int), i ≤ m → m ≤ ps.length → (ps.length : Int) - m = d → d + e < k → tocsinlaw14_BucketBudget.l2 k g j ps i m (ps.length : Int) i = some true := by
  induction d with
  | zero =>
    intro k m h0 h1 hd hk
    obtain ⟨k, rfl⟩ : ∃ m, k = m + 1 := ⟨k - 1, by omega⟩
    simp only [tocsinlaw14_BucketBudget.l2]
    rw [if_neg (by omega), wrap_id (by omega) (by omega)]
    exact outer k (by omega)
  | succ d ih =>
    intro k m h0 h1 hd hk
    obtain ⟨k, rfl⟩ : ∃ m, k = m + 1 := ⟨k - 1, by omega⟩
    simp only [tocsinlaw14_BucketBudget.l2]
    rw [if_pos (by omega), if_pos (by omega), if_pos hi0, if_pos hi1]
    have q1 := rd_at ps i hi0 hi1
    have q2 := rd_at ps m (by omega) (by omega)
    obtain ⟨hm, he, hx, hl, h3, h4⟩ := hg
    have b1 := hx _ (List.mem_of_getElem? q1)
    have b2 := hx _ (List.mem_of_getElem? q2)
    have ha : any = true := by
      cases any with
      | true => rfl
      | false => rw [he rfl] at q1; simp at q1
    have hlast := hl ha
    obtain ⟨s1, s2⟩ := h4 i.toNat m.toNat _ _ (by omega) q1 q2
    rw [show ((m.toNat : Int) - (i.toNat : Int)) = m - i from by omega] at s2
    rw [wrap_id (x := rd ps m - rd ps i) (by omega) (by omega)]
    obtain ⟨n, hn, _, n1, n2, n3, n4⟩ := budget_yes hr (d := rd ps m - rd ps i) (by omega) (by omega)
    rw [hn]
    simp only [Option.bind_some]
    rw [wrap_id (x := m - i) (by omega) (by omega), wrap_id (x := m - i + 1) (by omega) (by omega), if_neg, wrap_id (x := m + 1) (by omega) (by omega)]
    · exact ih k (m + 1) (by omega) (by omega) (by omega) (by omega)
    · intro hc
      have := Int.mul_le_mul_of_nonneg_right (show n ≤ m - i by omega) (show 0 ≤ g by have := hr.1; omega)
      omega

theorem budget_outer (g j : Int) (hr : Rt g j) (ps : List Int) (hlen : ps.length ≤ 500) (any : Bool) (mark last : Int) (hg : Good g j any mark last ps) (C : Nat) (hC : 502 ≤ C) (d : Nat) :
    ∀ (k : Nat) (i : Int), 0 ≤ i → i ≤ ps.length → (ps.length : Int) - i = d → d * C < k → tocsinlaw14_BucketBudget.l1 k g j ps (ps.length : Int) i = some true := by
  induction d with
  | zero =>
    intro k i h0 h1 hd hk
    obtain ⟨k, rfl⟩ : ∃ m, k = m + 1 := ⟨k - 1, by omega⟩
    simp only [tocsinlaw14_BucketBudget.l1]
    rw [if_neg (by omega)]
  | succ d ih =>
    intro k i h0 h1 hd hk
    obtain ⟨k, rfl⟩ : ∃ m, k = m + 1 := ⟨k - 1, by omega⟩
    have e : (d + 1) * C = d * C + C := Nat.succ_mul d C
    rw [e] at hk
    generalize d * C = z at ih hk
    simp only [tocsinlaw14_BucketBudget.l1]
    rw [if_pos (by omega)]
    exact budget_inner g j hr ps hlen any mark last hg i h0 (by omega) (z + 1) (fun k' hk' => ih k' (i + 1) (by omega) (by omega) (by omega) (by omega)) (d + 1) k i (by omega) (by omega) (by omega) (by omega)

theorem budget_takes (g j : Int) (hr : Rt g j) (l : List Int) (hl : l.length ≤ 500) (d : Nat) :
    ∀ (k : Nat) (i : Int) (any : Bool) (mark last p r : Int) (ps : List Int), 0 ≤ i → i ≤ l.length → (l.length : Int) - i = d → Good g j any mark last ps → (ps.length : Int) ≤ i → d + 300000 < k →
    tocsinlaw14_BucketBudget.l0 k g j ps l (l.length : Int) i g j any mark last p r = some true := by
  induction d with
  | zero =>
    intro k i any mark last p r ps h0 h1 hd hg hps hk
    obtain ⟨k, rfl⟩ : ∃ m, k = m + 1 := ⟨k - 1, by omega⟩
    simp only [tocsinlaw14_BucketBudget.l0]
    rw [if_neg (by omega)]
    exact budget_outer g j hr ps (by omega) any mark last hg 502 (by omega) ps.length k 0 (by omega) (by omega) (by omega) (by omega)
  | succ d ih =>
    intro k i any mark last p r ps h0 h1 hd hg hps hk
    obtain ⟨k, rfl⟩ : ∃ m, k = m + 1 := ⟨k - 1, by omega⟩
    simp only [tocsinlaw14_BucketBudget.l0]
    rw [if_pos (by omega), if_pos h0, if_pos (by omega), wrap_id (x := i + 1) (by omega) (by omega)]
    by_cases hgo : Goes j any mark last (rd l i)
    · rw [take_yes hr hg.1 hgo]
      simp only [Option.bind_some, if_true]
      rw [if_pos (by omega)]
      exact ih k (i + 1) true _ _ _ _ _ (by omega) (by omega) (by omega) (good_next hr hg hgo) (by simp; omega) (by omega)
    · rw [take_no hr hg.1 hgo]
      simp only [Option.bind_some]
      rw [if_neg (by decide)]
      exact ih k (i + 1) any _ _ _ _ _ (by omega) (by omega) (by omega) hg (by omega) (by omega)

theorem BucketBudget : tocsinlaw14_BucketBudget.Pure := by
  intro a0 a1 l2 w0 w1 hm hl hb
  refine ⟨300502, ?_⟩
  unfold tocsinlaw14_BucketBudget.f
  rw [fixed_true]
  simp only [Option.bind_some, if_true]
  by_cases hr : Rt a0 a1
  · rw [right_yes hr]
    simp only [Option.bind_some, if_true]
    have h1 : 0 ≤ mn (l2.length : Int) 500 := by unfold mn; split <;> omega
    have h2 : mn (l2.length : Int) 500 ≤ (l2.length : Int) := by unfold mn; split <;> omega
    have h3 : mn (l2.length : Int) 500 ≤ 500 := by unfold mn; split <;> omega
    rw [if_pos h1, if_pos h2]
    have h4 : (l2.take (mn (l2.length : Int) 500).toNat).length ≤ 500 := by rw [List.length_take]; omega
    exact budget_takes a0 a1 hr _ h4 _ _ 0 false 0 0 0 0 [] (by omega) (by omega) (Int.sub_zero _) ⟨(fun h => by cases h), (fun _ => rfl), (fun x hx => by simp at hx), (fun h => by cases h), (fun i x h => by simp at h), (fun i k x y _ h => by simp at h)⟩ (by simp) (by omega)
  · rw [right_no hr]
    rfl

end Go.Proofs.Ytpddklcfkjebgaa.Pure
