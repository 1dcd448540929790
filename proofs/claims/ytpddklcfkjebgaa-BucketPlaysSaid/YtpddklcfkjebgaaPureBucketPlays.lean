/- BucketPlays: which frames pass, and when the next one would, is as the document says, at every gap, jitter and list of times. -/
import Derived.Test.YtpddklcfkjebgaaPBx4
import Derived.Test.YtpddklcfkjebgaaBase
namespace Go.Proofs.Ytpddklcfkjebgaa.Pure
open Go.RowKit Go.Proofs.Ytpddklcfkjebgaa.PB Go.Proofs.YtpddklcfkjebgaaW.PrintWords Go.Proofs.YtpddklcfkjebgaaW.PrintLast
set_option linter.unusedVariables false

/-- The document's bucket beside the program's. -/
def Like (g j : Int) (any : Bool) (mark last : Int) (ts : List Int) (m : Int) : Prop :=
  Mk j any mark ∧ (any = false → ts = [] ∧ m = 0) ∧ (any = true → 0 < ts.length ∧ rd ts ((ts.length : Int) - 1) = last ∧ m = mark ∧ Near last)

theorem like_next {g j : Int} {any : Bool} {mark last p r t m : Int} {ts : List Int} (hr : Rt g j) (hl : Like g j any mark last ts m) (hs : ts.length < 17592186044416) (k : Nat) :
    ∃ n, bucket_Bucket_Next.f g j any mark last p r t = some (n, g, j, any, mark, last, p, r) ∧ tocsinref14_Next.f (k + 1) g j ts m t = some n := by
  unfold bucket_Bucket_Next.f tocsinref14_Next.f
  rw [far_eq, refFar_eq]
  simp only [Option.bind_some]
  obtain ⟨r1, r2, r3, r4⟩ := hr
  by_cases hn : Near t
  · have e0 : ¬ (decide (¬ Near t) = true) := by simpa using hn
    rw [if_neg e0, if_neg e0]
    cases any with
    | false =>
      obtain ⟨e1, e2⟩ := hl.2.1 rfl
      subst e1
      refine ⟨t, by rw [if_neg (by decide)], ?_⟩
      rw [if_neg (by simp)]
      simp only [tocsinref14_Next.j0]
      rw [if_neg (by decide), if_neg (by simp)]
    | true =>
      obtain ⟨h1, h2, h3, h4⟩ := hl.2.2 rfl
      obtain ⟨m1, m2⟩ := hl.1 rfl
      subst h3
      refine ⟨_, by rw [if_pos rfl], ?_⟩
      rw [wrap_id (x := (ts.length : Int) - 1) (by omega) (by omega), if_pos (by omega), if_pos (by omega), if_pos (by omega), h2]
      simp only [tocsinref14_Next.j0]
      rw [wrap_id (x := (ts.length : Int) - 1) (by omega) (by omega), h2, wrap_id (x := m - j) (by omega) (by omega)]
      unfold mx
      by_cases hc : t < last
      · rw [if_pos (decide_eq_true hc), if_pos (by omega), if_pos (by omega), if_pos (by omega), if_pos hc]
        split <;> rfl
      · rw [if_neg (by simpa using hc), if_pos (by omega), if_neg hc]
        split <;> rfl
  · have e0 : decide (¬ Near t) = true := by simpa using hn
    rw [if_pos e0, if_pos e0]
    exact ⟨0, rfl, rfl⟩

theorem rd_last (ts : List Int) (t : Int) : rd (ts ++ [t]) (((ts ++ [t]).length : Int) - 1) = t := by
  unfold rd
  rw [List.length_append, List.length_singleton, show (((ts.length + 1 : Nat) : Int) - 1).toNat = ts.length from by omega]
  simp

theorem like_take {g j : Int} {any : Bool} {mark last p r t m : Int} {ts : List Int} (hr : Rt g j) (hl : Like g j any mark last ts m) (hs : ts.length < 17592186044416) (k : Nat) :
    (Goes j any mark last t ∧ tocsinref14_Take.f (k + 1) g j ts m t = some (g, j, ts ++ [t], mark' g any mark t, true) ∧ Like g j true (mark' g any mark t) t (ts ++ [t]) (mark' g any mark t)) ∨
    (¬ Goes j any mark last t ∧ tocsinref14_Take.f (k + 1) g j ts m t = some (g, j, ts, m, false)) := by
  unfold tocsinref14_Take.f
  rw [refFar_eq]
  simp only [Option.bind_some]
  have r := hr
  obtain ⟨r1, r2, r3, r4⟩ := r
  have out : Goes j any mark last t → Like g j true (mark' g any mark t) t (ts ++ [t]) (mark' g any mark t) := fun hgo =>
    ⟨mk_next hr hl.1 hgo, (fun h => by cases h), fun _ => ⟨by simp, rd_last ts t, rfl, hgo.1⟩⟩
  by_cases hn : Near t
  · have n := hn
    obtain ⟨n1, n2⟩ := n
    rw [if_neg (by simpa using hn)]
    cases any with
    | false =>
      obtain ⟨e1, e2⟩ := hl.2.1 rfl
      subst e1
      have hgo : Goes j false mark last t := ⟨hn, fun h => by cases h⟩
      refine .inl ⟨hgo, ?_, out hgo⟩
      rw [if_neg (by simp)]
      simp only [tocsinref14_Take.j0]
      rw [if_neg (by decide), if_pos (by simp), if_pos (by simp), wrap_id (by omega) (by omega)]
      unfold mark'
      rw [if_neg (by simp)]
    | true =>
      obtain ⟨h1, h2, h3, h4⟩ := hl.2.2 rfl
      obtain ⟨m1, m2⟩ := hl.1 rfl
      subst h3
      rw [wrap_id (x := (ts.length : Int) - 1) (by omega) (by omega), if_pos (by omega), if_pos (by omega), if_pos (by omega), h2]
      simp only [tocsinref14_Take.j0]
      by_cases hc : t < last
      · refine .inr ⟨fun h => by have := h.2 rfl; omega, ?_⟩
        rw [if_pos hc]
        simp only [if_true]
      · rw [if_neg hc, wrap_id (x := t + j) (by omega) (by omega)]
        by_cases hd : t + j < m
        · refine .inr ⟨fun h => by have := h.2 rfl; omega, ?_⟩
          rw [if_pos (decide_eq_true hd)]
        · have hgo : Goes j true m last t := ⟨hn, fun _ => ⟨by omega, by omega⟩⟩
          refine .inl ⟨hgo, ?_, out hgo⟩
          rw [if_neg (by simpa using hd), if_neg (by omega), if_pos hs, if_pos hs]
          unfold mark'
          by_cases hm : t > m
          · rw [if_pos hm, if_neg (by omega), wrap_id (by omega) (by omega)]
          · rw [if_neg hm, if_pos ⟨rfl, by omega⟩, wrap_id (by omega) (by omega)]
  · refine .inr ⟨fun h => hn h.1, ?_⟩
    rw [if_pos (by simpa using hn)]
    simp only [tocsinref14_Take.j0, if_true]

theorem plays_loop (g j : Int) (hr : Rt g j) (l : List Int) (hl : l.length * 8 ≤ 140737488351232) (d : Nat) :
    ∀ (k : Nat) (i : Int) (any : Bool) (mark last p r m : Int) (ts : List Int), 0 ≤ i → i ≤ l.length → (l.length : Int) - i = d → Like g j any mark last ts m → p = ts.length → p + r = i → 0 ≤ r → 2 * d + 2 < k →
    tocsinlaw14_BucketPlays.l0 k r l (l.length : Int) i g j any mark last p r g j ts m = some true := by
  induction d with
  | zero =>
    intro k i any mark last p r m ts h0 h1 hd _ _ _ _ hk
    obtain ⟨k, rfl⟩ : ∃ m, k = m + 1 := ⟨k - 1, by omega⟩
    simp only [tocsinlaw14_BucketPlays.l0]
    rw [if_neg (by omega)]
  | succ d ih =>
    intro k i any mark last p r m ts h0 h1 hd hlike hp hpr hr0 hk
    obtain ⟨k, rfl⟩ : ∃ m, k = m + 2 := ⟨k - 2, by omega⟩
    have hs : ts.length < 17592186044416 := by omega
    simp only [tocsinlaw14_BucketPlays.l0]
    rw [if_pos (by omega), if_pos h0, if_pos (by omega)]
    obtain ⟨n, q1, q2⟩ := like_next (p := p) (r := r) (t := rd l i) hr hlike hs k
    rw [q1, q2]
    simp only [Option.bind_some, if_true]
    rcases like_take (p := p) (r := r) (t := rd l i) hr hlike hs k with ⟨hgo, e, hlike'⟩ | ⟨hgo, e⟩
    · rw [e]
      simp only [Option.bind_some, if_true, tocsinlaw14_BucketPlays.j1]
      rw [take_yes hr hlike.1 hgo]
      simp only [Option.bind_some, bucket_Bucket_Passed.f, bucket_Bucket_Refused.f]
      rw [if_neg (by decide), wrap_id (x := p + 1) (by omega) (by omega), if_pos (by rw [List.length_append, List.length_singleton]; omega), if_pos trivial, wrap_id (x := i + 1) (by omega) (by omega)]
      exact ih k (i + 1) _ _ _ _ _ _ _ (by omega) (by omega) (by omega) hlike' (by rw [List.length_append, List.length_singleton]; omega) (by omega) hr0 (by omega)
    · rw [e]
      simp only [Option.bind_some]
      rw [if_neg (by decide)]
      simp only [tocsinlaw14_BucketPlays.j1]
      rw [take_no hr hlike.1 hgo]
      simp only [Option.bind_some, bucket_Bucket_Passed.f, bucket_Bucket_Refused.f]
      rw [if_neg (by decide), wrap_id (x := r + 1) (by omega) (by omega), if_pos hp, if_pos trivial, wrap_id (x := i + 1) (by omega) (by omega)]
      exact ih k (i + 1) _ _ _ _ _ _ _ (by omega) (by omega) (by omega) hlike hp (by omega) (by omega) (by omega)

theorem BucketPlays : tocsinlaw14_BucketPlays.Pure := by
  intro a0 a1 l2 w0 w1 hm hl hb
  refine ⟨2 * l2.length + 3, ?_⟩
  unfold tocsinlaw14_BucketPlays.f
  rw [fixed_true]
  simp only [Option.bind_some, if_true]
  by_cases hr : Rt a0 a1
  · rw [right_yes hr, refRight_yes hr]
    simp only [Option.bind_some, if_true]
    exact plays_loop a0 a1 hr l2 hl l2.length _ 0 false 0 0 0 0 0 [] (by omega) (by omega) (by omega) ⟨(fun h => by cases h), (fun _ => ⟨rfl, rfl⟩), (fun h => by cases h)⟩ rfl (by omega) (by omega) (by omega)
  · rw [right_no hr, refRight_no hr]
    rfl

end Go.Proofs.Ytpddklcfkjebgaa.Pure
