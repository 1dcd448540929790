/- BucketNexts: a frame passes at the time that is told for the next one, and at none ahead of it, at every gap, jitter and list of times. -/
import Derived.Test.YtpddklcfkjebgaaPBx6
import Derived.Test.YtpddklcfkjebgaaBase
namespace Go.Proofs.Ytpddklcfkjebgaa.Pure
open Go.RowKit Go.Proofs.Ytpddklcfkjebgaa.PB Go.Proofs.YtpddklcfkjebgaaW.PrintWords Go.Proofs.YtpddklcfkjebgaaW.PrintLast
set_option linter.unusedVariables false

/-- What a bucket's state may be. -/
def St (g j : Int) (any : Bool) (mark last : Int) : Prop := Mk j any mark ∧ (any = true → Near last ∧ mark ≤ last + j + g)

theorem take_st {g j : Int} {any : Bool} {mark last p r t : Int} (hr : Rt g j) (hs : St g j any mark last) :
    ∃ any' mark' last' p' r', bucket_Bucket_Take.f g j any mark last p r t = some (decide (Goes j any mark last t), g, j, any', mark', last', p', r') ∧ St g j any' mark' last' ∧ (¬ Goes j any mark last t → any' = any ∧ mark' = mark ∧ last' = last) := by
  by_cases hgo : Goes j any mark last t
  · refine ⟨_, _, _, _, _, by rw [take_yes hr hs.1 hgo, decide_eq_true hgo], ⟨mk_next hr hs.1 hgo, fun _ => ⟨hgo.1, ?_⟩⟩, fun h => absurd hgo h⟩
    unfold mark'
    split
    · rename_i hc
      have := hgo.2 hc.1
      omega
    · have := hr.2.2.1
      omega
  · exact ⟨any, mark, last, p, wrap64 (r + 1), by rw [take_no hr hs.1 hgo, decide_eq_false hgo], hs, fun _ => ⟨rfl, rfl, rfl⟩⟩

theorem next_eq {g j : Int} {any : Bool} {mark last p r t : Int} (hr : Rt g j) (hs : St g j any mark last) :
    ∃ n, bucket_Bucket_Next.f g j any mark last p r t = some (n, g, j, any, mark, last, p, r) ∧ (¬ Near t → n = 0) ∧ (Near t → t ≤ n ∧ (Near n → Goes j any mark last n) ∧ (t < n → ¬ Goes j any mark last (n - 1)) ∧ n ≤ 1125899906842624 + 2147483648) := by
  unfold bucket_Bucket_Next.f
  rw [far_eq]
  simp only [Option.bind_some]
  obtain ⟨r1, r2, r3, r4⟩ := hr
  by_cases hn : Near t
  · rw [if_neg (by simpa using hn)]
    cases any with
    | false =>
      rw [if_neg (by decide)]
      refine ⟨t, rfl, fun h => absurd hn h, fun _ => ⟨by omega, (fun _ => ⟨hn, fun h => by cases h⟩), (fun h => by omega), ?_⟩⟩
      have := hn.2
      omega
    | true =>
      obtain ⟨hl, hml⟩ := hs.2 rfl
      obtain ⟨m1, m2⟩ := hs.1 rfl
      obtain ⟨l1, l2⟩ := hl
      obtain ⟨n1, n2⟩ := hn
      rw [if_pos rfl, wrap_id (x := mark - j) (by omega) (by omega)]
      refine ⟨_, rfl, fun h => absurd ⟨n1, n2⟩ h, fun _ => ?_⟩
      generalize hq : mx (mx t last) (mark - j) = q
      have hq1 : t ≤ q ∧ last ≤ q ∧ mark - j ≤ q ∧ (q = t ∨ q = last ∨ q = mark - j) := by
        rw [← hq]
        unfold mx
        split <;> split <;> omega
      obtain ⟨a1, a2, a3, a4⟩ := hq1
      refine ⟨a1, fun h => ⟨h, fun _ => ⟨a2, a3⟩⟩, fun h hgo => ?_, by omega⟩
      have := hgo.2 rfl
      omega
  · rw [if_pos (by simpa using hn)]
    exact ⟨0, rfl, fun _ => rfl, fun h => absurd h hn⟩

theorem nexts_inner (g j : Int) (hr : Rt g j) (l : List Int) (k0 : Int) (hk0 : 0 ≤ k0) (hk1 : k0 < l.length) (n : Int) (e : Nat) (hll : l.length < 9223372036854775807)
    (outer : ∀ k, e ≤ k → tocsinlaw14_BucketNexts.l0 k g j l n (wrap64 (k0 + 1)) = some true) (xs : List Int) (hxs : xs.length ≤ l.length) (d : Nat) :
    ∀ (k : Nat) (i : Int) (any : Bool) (mark last p r : Int), 0 ≤ i → i ≤ xs.length → (xs.length : Int) - i = d → St g j any mark last → d + e < k →
    tocsinlaw14_BucketNexts.l1 k g j l k0 n k0 xs (xs.length : Int) i g j any mark last p r = some true := by
  induction d with
  | zero =>
    intro k i any mark last p r h0 h1 hd hs hk
    obtain ⟨k, rfl⟩ : ∃ m, k = m + 1 := ⟨k - 1, by omega⟩
    simp only [tocsinlaw14_BucketNexts.l1]
    rw [if_neg (by omega), if_pos hk0, if_pos hk1]
    have out := outer k (by omega)
    obtain ⟨q, hq, hq0, hq1⟩ := next_eq (t := rd l k0) (p := p) (r := r) hr hs
    rw [hq, refFar_eq]
    simp only [Option.bind_some]
    by_cases hn : Near (rd l k0)
    · rw [if_neg (by simpa using hn)]
      obtain ⟨b1, b2, b3, b4⟩ := hq1 hn
      rw [if_neg (by omega)]
      have n1 := hn.1
      by_cases hlt : q > rd l k0
      · rw [if_pos hlt, wrap_id (x := q - 1) (by omega) (by omega)]
        obtain ⟨any', mark', last', p', r', ht, hs', hsame⟩ := take_st (t := q - 1) (p := p) (r := r) hr hs
        rw [ht, decide_eq_false (b3 (by omega))]
        simp only [Option.bind_some]
        rw [if_neg (by decide), refFar_eq]
        simp only [Option.bind_some]
        by_cases hnq : Near q
        · rw [if_neg (by simpa using hnq)]
          obtain ⟨e1, e2, e3⟩ := hsame (b3 (by omega))
          rw [e1, e2, e3, take_yes hr hs.1 (b2 hnq)]
          simp only [Option.bind_some, if_true]
          exact out
        · rw [if_pos (by simpa using hnq)]
          exact out
      · rw [if_neg hlt, refFar_eq]
        simp only [Option.bind_some]
        by_cases hnq : Near q
        · rw [if_neg (by simpa using hnq), take_yes hr hs.1 (b2 hnq)]
          simp only [Option.bind_some, if_true]
          exact out
        · rw [if_pos (by simpa using hnq)]
          exact out
    · rw [if_pos (by simpa using hn), hq0 hn, if_pos rfl]
      exact out
  | succ d ih =>
    intro k i any mark last p r h0 h1 hd hs hk
    obtain ⟨k, rfl⟩ : ∃ m, k = m + 1 := ⟨k - 1, by omega⟩
    simp only [tocsinlaw14_BucketNexts.l1]
    rw [if_pos (by omega), if_pos h0, if_pos (by omega)]
    obtain ⟨any', mark', last', p', r', ht, hs', _⟩ := take_st (t := rd xs i) (p := p) (r := r) hr hs
    rw [ht]
    simp only [Option.bind_some]
    rw [wrap_id (x := i + 1) (by omega) (by omega)]
    exact ih k (i + 1) _ _ _ _ _ (by omega) (by omega) (by omega) hs' (by omega)

theorem nexts_outer (g j : Int) (hr : Rt g j) (l : List Int) (hll : l.length < 9223372036854775807) (n : Int) (hn : n ≤ 60) (hnl : n ≤ l.length) (C : Nat) (hC : 65 ≤ C) (d : Nat) :
    ∀ (k : Nat) (i : Int), 0 ≤ i → i ≤ n → n - i = d → d * C < k → tocsinlaw14_BucketNexts.l0 k g j l n i = some true := by
  induction d with
  | zero =>
    intro k i h0 h1 hd hk
    obtain ⟨k, rfl⟩ : ∃ m, k = m + 1 := ⟨k - 1, by omega⟩
    simp only [tocsinlaw14_BucketNexts.l0]
    rw [if_neg (by omega)]
  | succ d ih =>
    intro k i h0 h1 hd hk
    obtain ⟨k, rfl⟩ : ∃ m, k = m + 1 := ⟨k - 1, by omega⟩
    have e : (d + 1) * C = d * C + C := Nat.succ_mul d C
    rw [e] at hk
    generalize d * C = z at ih hk
    simp only [tocsinlaw14_BucketNexts.l0]
    rw [if_pos (by omega), right_yes hr]
    simp only [Option.bind_some, if_true]
    rw [if_pos h0, if_pos (by omega)]
    have hlen : (l.take i.toNat).length = i.toNat := by rw [List.length_take]; omega
    exact nexts_inner g j hr l i h0 (by omega) n (z + 1) hll (fun k' hk' => by rw [wrap_id (by omega) (by omega)]; exact ih k' (i + 1) (by omega) (by omega) (by omega) (by omega)) _ (by omega) i.toNat k 0 false 0 0 0 0 (by omega) (by omega) (by omega) ⟨(fun h => by cases h), (fun h => by cases h)⟩ (by omega)

theorem nexts_none (l : List Int) (hll : l.length < 9223372036854775807) (g j : Int) (hr : ¬ Rt g j) (n : Int) : ∀ k, 1 < k → tocsinlaw14_BucketNexts.l0 k g j l n 0 = some true := by
  intro k hk
  obtain ⟨k, rfl⟩ : ∃ m, k = m + 1 := ⟨k - 1, by omega⟩
  simp only [tocsinlaw14_BucketNexts.l0]
  split
  · rw [right_no hr]; rfl
  · rfl

theorem BucketNexts : tocsinlaw14_BucketNexts.Pure := by
  intro a0 a1 l2 w0 w1 hm hl hb
  refine ⟨5002, ?_⟩
  unfold tocsinlaw14_BucketNexts.f
  rw [fixed_true]
  simp only [Option.bind_some, if_true, bucket_Bucket_Take_nil.f, bucket_Bucket_Next_nil.f, bucket_Bucket_Passed_nil.f, bucket_Bucket_Refused_nil.f]
  rw [if_neg (by decide)]
  try rw [if_pos rfl]
  try rw [if_pos rfl]
  simp only [tocsinlaw14_BucketNexts.j0]
  have h1 : 0 ≤ mn (l2.length : Int) 60 := by unfold mn; split <;> omega
  have h2 : mn (l2.length : Int) 60 ≤ (l2.length : Int) := by unfold mn; split <;> omega
  have h3 : mn (l2.length : Int) 60 ≤ 60 := by unfold mn; split <;> omega
  rw [if_neg (by decide), if_pos h1, if_pos h2]
  have h4 : ((l2.take (mn (l2.length : Int) 60).toNat).length : Int) = mn (l2.length : Int) 60 := by rw [List.length_take]; omega
  rw [h4]
  by_cases hr : Rt a0 a1
  · exact nexts_outer a0 a1 hr l2 (by omega) _ h3 h2 65 (by omega) (mn (l2.length : Int) 60).toNat _ 0 (by omega) h1 (by omega) (by omega)
  · exact nexts_none l2 (by omega) a0 a1 hr _ _ (by omega)

end Go.Proofs.Ytpddklcfkjebgaa.Pure
