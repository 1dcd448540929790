import Derived.Test.YtgeheedfmdlefaaFrameSealedFns5
import Derived.Test.YtgeheedfmdlefaaFrameSealedFFix
import Derived.Test.YtgeheedfmdlefaaFrameSealedFReadD
namespace Go.Proofs.Ytgeheedfmdlefaa.Pure
open Go.RowKit Go.Proofs.Ytgeheedfmdlefaa.PF Go.Proofs.YtgeheedfmdlefaaW.PrintWords Go.Proofs.YtgeheedfmdlefaaW.PrintLast Go.Proofs.YtgeheedfmdlefaaW.PrintMore
set_option linter.unusedVariables false

theorem wf_u8 {x : Int} (h : (Lit.int .u8 x).wf = true) : 0 ≤ x ∧ x ≤ 255 := by
  simp [Lit.wf, IntKind.min, IntKind.max, IntKind.bits, IntKind.signed] at h
  omega
theorem not8 {l b E : List Int} (hb : Bytes l) (e : shut l = b ++ E) (hE : E.length = 4) : (val E == crc b) = true := by
  unfold shut at e
  obtain ⟨e1, e2⟩ := List.append_inj' e (by rw [be_length, hE])
  have hc := crc_range hb
  rw [← e1, ← e2, val_be 4 _ hc.1 (by simpa using hc.2)]
  simp
theorem FrameSealed : lw_FrameSealed.Pure := by
  intro l _ h1 hw
  have hb : Bytes l := fun x hx => wf_u8 (hw x hx)
  have hl : l.length < 140737488355000 := by omega
  have hc := crc_range hb
  have hs := shut_bytes hb
  have hsl := shut_length l
  obtain ⟨a, b, c, d, e, n, p1, p2, p3, p4⟩ := readControl_both hs (by omega) (k := 10 * l.length + 40001) (by omega)
  obtain ⟨a', b', c', p, s, m, q1, q2, q3, q4⟩ := readData_both hs (by omega) (k := 10 * l.length + 40001) (by omega)
  have hn : n ≠ 8 := fun h => by
    obtain ⟨x, y, e1, e2, e3⟩ := p4 h
    exact e3 (not8 hb e1 e2)
  have hm : m ≠ 8 := fun h => by
    obtain ⟨x, y, e1, e2, e3⟩ := q4 h
    exact e3 (not8 hb e1 e2)
  have hbe : [(crc l / 16777216) % 256, (crc l / 65536) % 256, (crc l / 256) % 256, (crc l) % 256] = be 4 (crc l) := by
    simp [be]
  refine ⟨10 * l.length + 40001, ?_⟩
  unfold lw_FrameSealed.f
  rw [fixed_true (by omega), Option.bind_some, if_pos rfl, sum_ref hb (by omega) (by omega), Option.bind_some, Option.bind_some, if_pos (by simp; omega), Option.bind_some, Option.bind_some, hbe, if_pos (by simp [be_length]; omega), Option.bind_some]
  rw [show ([] ++ l) ++ be 4 (crc l) = shut l from rfl, p1, Option.bind_some, q1, Option.bind_some, p2, Option.bind_some, q2, Option.bind_some]
  dsimp only
  rw [if_pos (by simp), if_pos rfl, if_pos (by simp), if_pos rfl, if_neg hn]
  simp [hm]
end Go.Proofs.Ytgeheedfmdlefaa.Pure
