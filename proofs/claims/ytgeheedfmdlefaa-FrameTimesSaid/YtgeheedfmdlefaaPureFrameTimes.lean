import Derived.Test.YtgeheedfmdlefaaPFx31
import Derived.Test.YtgeheedfmdlefaaFFix
namespace Go.Proofs.Ytgeheedfmdlefaa.Pure
open Go.RowKit Go.Proofs.Ytgeheedfmdlefaa.PF Go.Proofs.YtgeheedfmdlefaaW.PrintWords Go.Proofs.YtgeheedfmdlefaaW.PrintLast Go.Proofs.YtgeheedfmdlefaaW.PrintMore

theorem time_ref (a : Int) : tocsinref06_Time.f a = frame_Time.f a := by
  unfold tocsinref06_Time.f frame_Time.f mn mx
  repeat' split
  all_goals exact congrArg some (by first | omega | (unfold wrap64; omega))
theorem FrameTimes : tocsinlaw06_FrameTimes.Pure := by
  intro a0 a1 w0 w1
  refine ⟨1000, ?_⟩
  unfold tocsinlaw06_FrameTimes.f
  rw [fixed_true (Nat.le_refl _), Option.bind_some, if_pos rfl, time_ref, time_ref]
  obtain ⟨x, hx, h1, h2⟩ : ∃ x, frame_Time.f a0 = some (8 * x) ∧ 64 ≤ x ∧ x ≤ 1518 := ⟨_, rfl, by unfold mn mx; split <;> split <;> omega, by unfold mn mx; split <;> split <;> omega⟩
  obtain ⟨y, hy, h3⟩ : ∃ y, frame_Time.f a1 = some (8 * y) ∧ (a0 ≤ a1 → x ≤ y) := by
    refine ⟨_, rfl, fun h => ?_⟩
    have e : 8 * x = 8 * (mn (mx a0 64) 1518) := (Option.some.inj hx).symm
    unfold mn mx at *
    split at e <;> split <;> split at e <;> split <;> omega
  rw [hx, hy]
  simp only [Option.bind_some, if_true]
  split
  · rw [if_pos (by omega)]
    simp only [Option.some.injEq, decide_eq_true_eq]
    omega
  · rw [if_pos (by omega), if_pos (by omega)]
    simp only [Option.some.injEq, decide_eq_true_eq]
    omega
end Go.Proofs.Ytgeheedfmdlefaa.Pure
