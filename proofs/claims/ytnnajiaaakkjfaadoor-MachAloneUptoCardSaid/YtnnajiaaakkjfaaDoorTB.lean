/- What the row's listed table gives the walks. -/
import Derived.Test.YtnnajiaaakkjfaaDoorRows
import Derived.Test.YtnnajiaaakkjfaaDoorA
import Derived.WalkKit
import Derived.ProofKit
import Derived.OpenShut
import Derived.ShutString
import Derived.ChangeOld
import Derived.Below
import Derived.SizedLaws
import Derived.LaidMore
import Derived.Stop.Joined
namespace Go.Proofs.YtnnajiaaakkjfaaDoor.F
open Go Go.ChangeShapes Go.WideShapes Go.ChangeAt Go.RowKit Go.Proofs.YtnnajiaaakkjfaaDoor Go.Proofs.YtnnajiaaakkjfaaDoor.E
set_option linter.unusedVariables false
theorem own : ownKnob Tryd.prog.godebug = none := by kernel_rfl
theorem laidOut : laidOutB Tryd.prog = true := by kernel_rfl
abbrev laidT : List (String × DataW Unit) := [("math/bits.deBruijn32tab", Rows.laid_math_bits_deBruijn32tab)]
theorem gTab : Tryd.prog.globalNamed "math/bits.deBruijn32tab" = some 0 := by kernel_rfl
theorem tTab : (Tryd.prog.globals[0]?).map (·.type) = some 57 := by kernel_rfl
theorem door_met (os : Os) (args : Array Value) : laidMetH Tryd.prog laidT ((World.doorLaid Tryd.prog 400 os).forCall (fun _ _ => 0) ⟨#[], args, []⟩).memory :=
  laidMetH_of_parts3 (fuel := 8) (laidMet_of_run' 8 (by kernel_rfl) (by kernel_rfl)) (by kernel_rfl) (by kernel_rfl)
theorem laid_list {H : Type} : (Rows.laid_math_bits_deBruijn32tab : DataW H) = .agg (tabL.map fun k => .lit (.int .u8 k)) := rfl
theorem of_laid {W : World} (h : laidMetH Tryd.prog laidT W) : Tab W := by
  rw [MakeChecks.laidMetH_plain _ _ _ (by kernel_rfl)] at h
  obtain ⟨ps, ⟨g0, t0, cs0, f0, p0, q0, hg0, ht0, hv0, hd0, _, _⟩, _, _⟩ := h
  obtain rfl := Option.some.inj (gTab.symm.trans hg0)
  obtain rfl := Option.some.inj (tTab.symm.trans ht0)
  obtain ⟨xs, m1, rfl, hx1, hlen, hn3, hel⟩ := DataW.trod_array Tryd.underlying57 hd0
  have c5 : Tryd.prog.cellsOf 5 = 1 := by kernel_rfl
  simp only [Prod.mk.injEq] at hx1
  have hx2 := hx1.1
  rw [laid_list, DataW.agg.injEq] at hx2
  have key : ∀ i, i < 32 → W.cell? ⟨0, i, none⟩ = some (.int .u8 (tabL.getD i 0)) := fun i hi => by
    have h0 := hel i hi
    rw [c5, List.getElem?_eq_getElem (by omega)] at h0
    obtain ⟨k, e1, e2, _⟩ := DataW.trod_int Tryd.underlying5 h0
    have e3 : (xs.map (·.1))[i]? = some (.lit (.int .u8 k)) := by
      rw [List.getElem?_map, List.getElem?_eq_getElem (by omega), Option.map_some, e2]
    rw [← hx2, List.getElem?_map] at e3
    have hk : tabL.getD i 0 = k := by
      rw [List.getD_eq_getElem?_getD]
      cases ht : tabL[i]? with
      | none => rw [ht] at e3; cases e3
      | some q => rw [ht] at e3; simp at e3; simpa using e3
    have := World.var?_cell hg0 hv0 i
    rw [this, hk]
    have e4 : (cs0.toList.drop (i * 1)).take 1 = [.int .u8 k] := e1
    rw [Nat.mul_one] at e4
    have e5 : (cs0.toList.drop i)[0]? = some (.int .u8 k) := by
      have := congrArg (·[0]?) e4
      simpa using this
    rw [List.getElem?_drop, Nat.add_zero, Array.getElem?_toList] at e5
    exact e5
  refine ⟨?_, key⟩
  have := key 0 (by decide)
  unfold World.cell? at this
  by_cases hlt : 0 < W.heap.size
  · exact hlt
  · rw [Array.getElem?_eq_none (Nat.le_of_not_lt hlt)] at this
    simp at this
theorem hG_of {W : World} (T : Tab W) : Tryd.prog.globals.size ≤ W.heap.size := by rw [show Tryd.prog.globals.size = 1 from by kernel_rfl]; exact T.lt
theorem start_ok (W : World) : Gd W (St.start W) := ⟨Nat.le_refl _, ⟨Nat.le_refl _, fun _ _ => rfl⟩, fun _ _ => rfl⟩
end Go.Proofs.YtnnajiaaakkjfaaDoor.F
