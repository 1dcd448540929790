import Derived.Test.YtgeheedfmdlefaaPFx24
import Derived.Test.YtgeheedfmdlefaaFFix
import Derived.Test.YtgeheedfmdlefaaFRefD
import Derived.Test.YtgeheedfmdlefaaFBack
namespace Go.Proofs.Ytgeheedfmdlefaa.Pure
open Go.RowKit Go.Proofs.Ytgeheedfmdlefaa.PF Go.Proofs.YtgeheedfmdlefaaW.PrintWords Go.Proofs.YtgeheedfmdlefaaW.PrintLast

theorem FrameDatas : tocsinlaw06_FrameDatas.Pure := by
  intro c l n p s _ _ _ _ _
  refine ⟨30000, ?_⟩
  unfold tocsinlaw06_FrameDatas.f
  rw [fixed_true (by omega), Option.bind_some, if_pos rfl]
  by_cases h : rightD c l n p.size s
  · rw [data_eq h (by omega), Option.bind_some, rightD_ref, decide_eq_true h, Option.bind_some, if_pos rfl]
    dsimp only
    have hbl := bodyD_length h
    have hsl := shut_length (bodyD c l n p s)
    have h' := h
    unfold rightD at h'
    rw [readData_back h (by omega), Option.bind_some, if_pos rfl, data_ref h (by omega), Option.bind_some, if_pos rfl, if_pos (by omega)]
    dsimp only
    have s5 : (shut (bodyD c l n p s)).take 2 = [8, 0] := by
      unfold shut bodyD headD
      simp
    rw [if_pos rfl, if_pos (by simp), which_eq (shut_bytes (bodyD_bytes c l n p s)) (by omega) (by omega), s5, if_neg (by decide), if_pos (by decide)]
    rfl
  · rw [data_no h, Option.bind_some, rightD_ref, decide_eq_false h, Option.bind_some, if_neg (by simp), if_pos rfl]
    rfl
end Go.Proofs.Ytgeheedfmdlefaa.Pure
