import Derived.Test.YtgeheedfmdlefaaPFx21
import Derived.Test.YtgeheedfmdlefaaFFix
import Derived.Test.YtgeheedfmdlefaaFRef
namespace Go.Proofs.Ytgeheedfmdlefaa.Pure
open Go.RowKit Go.Proofs.Ytgeheedfmdlefaa.PF Go.Proofs.YtgeheedfmdlefaaW.PrintWords Go.Proofs.YtgeheedfmdlefaaW.PrintLast

theorem FrameControls : tocsinlaw06_FrameControls.Pure := by
  intro a b c d e _ _ _ hd _
  have hd := (wf_u32 hd).1
  refine ⟨2000, ?_⟩
  unfold tocsinlaw06_FrameControls.f
  rw [fixed_true (by omega), Option.bind_some, if_pos rfl]
  by_cases h : rightC a b c d e
  · rw [control_eq h hd (by omega), Option.bind_some, rightC_ref, decide_eq_true h, Option.bind_some, if_pos rfl]
    dsimp only
    rw [readControl_back h hd (by omega), Option.bind_some, if_pos rfl, control_ref h hd (by omega), Option.bind_some, if_pos rfl]
    dsimp only
    have hl : (shut (bodyC a b c d e)).length = 34 := by rw [shut_length, bodyC_length]
    have s5 : (shut (bodyC a b c d e)).take 2 = [137, 29] := rfl
    rw [if_pos rfl, if_pos (by simp), which_eq (shut_bytes (bodyC_bytes a b c d e)) (by omega) (by omega), s5, if_pos (by decide)]
    rfl
  · rw [control_no h, Option.bind_some, rightC_ref, decide_eq_false h, Option.bind_some, if_neg (by simp), if_pos rfl]
    rfl
end Go.Proofs.Ytgeheedfmdlefaa.Pure
