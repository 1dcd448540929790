import Derived.Test.YtgeheedfmdlefaaFrameReadsFns5
import Derived.Test.YtgeheedfmdlefaaFrameReadsFFix
import Derived.Test.YtgeheedfmdlefaaFrameReadsFReadD
namespace Go.Proofs.Ytgeheedfmdlefaa.Pure
open Go.RowKit Go.Proofs.Ytgeheedfmdlefaa.PF Go.Proofs.YtgeheedfmdlefaaW.PrintWords Go.Proofs.YtgeheedfmdlefaaW.PrintLast Go.Proofs.YtgeheedfmdlefaaW.PrintMore
set_option linter.unusedVariables false

theorem wf_u8 {x : Int} (h : (Lit.int .u8 x).wf = true) : 0 ≤ x ∧ x ≤ 255 := by
  simp [Lit.wf, IntKind.min, IntKind.max, IntKind.bits, IntKind.signed] at h
  omega
theorem FrameReads : lw_FrameReads.Pure := by
  intro l _ h1 hw
  have hb : Bytes l := fun x hx => wf_u8 (hw x hx)
  have hl : l.length < 140737488355328 := by omega
  obtain ⟨a, b, c, d, e, n, p1, p2, p3, _⟩ := readControl_both hb hl (k := 10 * l.length + 40001) (by omega)
  obtain ⟨a', b', c', p, s, m, q1, q2, q3, _⟩ := readData_both hb hl (k := 10 * l.length + 40001) (by omega)
  refine ⟨10 * l.length + 40001, ?_⟩
  unfold lw_FrameReads.f
  rw [fixed_true (by omega), Option.bind_some, if_pos rfl, p1, Option.bind_some, q1, Option.bind_some, p2, Option.bind_some, q2, Option.bind_some]
  dsimp only
  rw [if_neg (by simp), if_pos rfl, if_neg (by simp), if_pos rfl, sum_eq hb (by omega) (by omega), Option.bind_some, sum_ref hb (by omega) (by omega), Option.bind_some, if_pos rfl]
  by_cases hn : n = 0
  · obtain ⟨hR, hd, hc⟩ := p3 hn
    have hm : m ≠ 0 := by
      intro hm
      have e1 := (q3 hm).2
      rw [hc] at e1
      have e2 := congrArg (List.take 1) e1
      unfold shut bodyC bodyD headD at e2
      simp at e2
    rw [if_pos hn, show (m == 0) = false from by simp [hm], lw_FrameReads.j0, if_neg (by decide), if_pos hn, control_eq hR hd (by omega), Option.bind_some, if_pos rfl, ← hc]
    simp
  · rw [if_neg hn, lw_FrameReads.j0, if_neg (by decide), if_neg hn]
    by_cases hm : m = 0
    · obtain ⟨hR, hc⟩ := q3 hm
      rw [if_pos hm, data_eq hR (by omega), Option.bind_some, if_pos rfl, ← hc]
      simp
    · rw [if_neg hm]
end Go.Proofs.Ytgeheedfmdlefaa.Pure
