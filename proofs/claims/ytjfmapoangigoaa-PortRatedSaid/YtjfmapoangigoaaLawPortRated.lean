/- The row, over the walk. -/
import Derived.Test.YtjfmapoangigoaaRows
import Derived.Test.YtjfmapoangigoaaN
import Derived.WalkKit
import Derived.ProofKit
import Derived.OpenShut
import Derived.ShutString
import Derived.ChangeOld
import Derived.Below
import Derived.SizedLaws
namespace Go.Proofs.Ytjfmapoangigoaa.portRated
open Go.ChangeShapes Go.WideShapes Go.ChangeAt Go.RowKit Go.Proofs.Ytjfmapoangigoaa Go.Proofs.Ytjfmapoangigoaa.E Go.Proofs.Ytjfmapoangigoaa.F
open Go.ChangeMaps (open_string shut_string)
set_option linter.unusedVariables false
theorem own : ownKnob Try.prog.godebug = none := by kernel_rfl
theorem laidOut : laidOutB Try.prog = true := by kernel_rfl
theorem hG_of (W : World) : Try.prog.globals.size ≤ W.heap.size := by rw [show Try.prog.globals.size = 0 from by kernel_rfl]; exact Nat.zero_le _
theorem start_ok (W : World) : Gd W (St.start W) := ⟨Nat.le_refl _, Nat.le_refl _, fun _ _ => rfl⟩
set_option maxRecDepth 100000 in
theorem lifted (os : Os) (started : os.Started) (H : Type) (enc : TypeId × Value → H) :
    ReturnsInHanded {} Try.checked os 5 .any (Rows.portRatedSpec.pre6 enc Try.prog Try.f5 Rows.portRatedRow.domain false) (Rows.portRatedSpec.post enc Try.prog Try.f5 false true false false) := by
  refine returnsInHanded_of_change_sized (C := Try.checked) own started (by kernel_rfl) Try.func5
    (ChangeSpec.witness6 (enc := enc) (C := Try.checked) false ⟨#[], #[.slice none 0 0], []⟩ 8 (by kernel_rfl) (by kernel_rfl) (by kernel_rfl) (by kernel_rfl)) ?_
  intro W base args ds gs before hval0 hW hcnd hsz0 _
  have hsz : (DataW.weightsEach Try.prog (Try.f5.params.toList ++ Rows.portRatedSpec.plain.varTypes Try.prog) (ds ++ gs)).all (· ≤ reachBytes) = true := hsz0
  have hval : ∀ (j : Nat) t v, Try.f5.params[j]? = some t → args[j]? = some v → Value.okWide Try.prog W .any base t v := hval0
  have hW' := hW
  obtain ⟨p, q, hA0, hV, rfl, hfz, hnd⟩ := hW
  have hA : DataW.TrodAll enc Try.prog W 0 (fun _ => true) true Try.f5.params.toList args.toList ds p := hA0
  rw [Try.params5] at hA hval hsz
  obtain ⟨v0, vs0, d0, ds0, p0, q0, hargs, rfl, rfl, h0, r0⟩ := trodAll_cons hA
  obtain ⟨rfl, rfl, rfl⟩ := trodAll_nil r0
  obtain rfl : args = #[v0] := by cases args; simp_all
  obtain ⟨rfl, rfl⟩ := trodVars_none hV
  have k0 := h0
  have lt0 : ∀ x ∈ p0, x.block < W.heap.size := by obtain ⟨m, hm⟩ := k0; exact DataW.trod_lt m _ _ _ hm
  have ww0 := E.weights_at hsz (j := 0) (t := 45) (d := d0) rfl rfl
  obtain ⟨fu0, hf0⟩ := h0
  obtain ⟨aa0, ln0, cp0, rfl⟩ := okWide_slice Try.underlying45 (hval 0 45 v0 rfl rfl)
  have hg0 : DataW.trod enc Try.prog W 0 (fun _ => true) true fu0 45 [.slice aa0 ln0 cp0] = some (d0, p0) := hf0
  obtain ⟨l0, o0, y0, r0⟩ := old_slice (T := BT) (y := (d0, p0)) Try.underlying45 (by kernel_rfl) (Rf.bool Try.underlying4) hg0 ww0 (hval 0 45 _ rfl rfl)
  clear hA0 hval0 hsz0 hsz
  obtain ⟨⟨v, S'⟩, e, ev⟩ := rated_law (W := W) (S := St.start W) (start_ok W) o0 (by have e : Try.prog.bytesOf 4 = 1 := (by kernel_rfl); rw [e] at y0; omega)
  obtain rfl : v = .bool true := ev
  refine (calls_of_W (P := Try.prog) (hG_of W) (by kernel_rfl) (fun v hv => ?_) e).mono ?_
  · simp only [List.mem_toArray, List.mem_cons, List.not_mem_nil, or_false] at hv
    rcases hv with rfl
    · exact o0.old
  rintro e W' ⟨rfl, bel⟩
  exact ⟨_, rfl, _, _, _, [], _, [], hW', trodAll_mk1 (shut_bool Try.underlying4 _), (trodAll_cons_mk (Below.trod laidOut (by kernel_rfl) (of_decide_eq_true (by kernel_rfl)) k0 bel lt0) trodAll_mk0), rfl, bel.frame _, fun h => by cases h⟩
theorem over : Rows.portRatedRow.holds Try.pinned (OpenSpec.ofChange Rows.portRatedSpec) :=
  OpenClaim.holds_of_wide 5 Try.f5 rfl rfl rfl rfl rfl rfl rfl ⟨rfl, rfl, rfl, rfl, rfl⟩ rfl rfl rfl rfl rfl (by kernel_rfl) Try.func5 (by kernel_rfl)
    (of_decide_eq_true (by kernel_rfl)) (by unfold Func.isWrapper; first | (rw [if_pos (by decide +kernel)]; kernel_rfl) | (rw [if_neg (by decide +kernel)]; exact ⟨rfl, rfl⟩))
    (fun os started H enc _ => lifted os started H enc)
theorem proved : Rows.PortRatedSaid := over
#print axioms proved
end Go.Proofs.Ytjfmapoangigoaa.portRated
namespace Go.Proofs.Ytjfmapoangigoaa
/-- The row, under a short name, for the claim. -/
theorem portRated_holds : Rows.PortRatedSaid := portRated.proved
end Go.Proofs.Ytjfmapoangigoaa
