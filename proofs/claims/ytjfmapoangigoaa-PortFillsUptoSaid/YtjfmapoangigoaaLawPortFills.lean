/- The row, over the walk. -/
import Derived.Test.YtjfmapoangigoaaRows
import Derived.Test.YtjfmapoangigoaaP
import Derived.Test.YtjfmapoangigoaaE28
import Derived.WalkKit
import Derived.ProofKit
import Derived.OpenShut
import Derived.ShutString
import Derived.ChangeOld
import Derived.Below
import Derived.SizedLaws
namespace Go.Proofs.Ytjfmapoangigoaa.portFills
open Go.ChangeShapes Go.WideShapes Go.ChangeAt Go.RowKit Go.Proofs.Ytjfmapoangigoaa Go.Proofs.Ytjfmapoangigoaa.E Go.Proofs.Ytjfmapoangigoaa.F
open Go.ChangeMaps (open_string shut_string)
set_option linter.unusedVariables false
theorem own : ownKnob Try.prog.godebug = none := by kernel_rfl
theorem laidOut : laidOutB Try.prog = true := by kernel_rfl
theorem hG_of (W : World) : Try.prog.globals.size ≤ W.heap.size := by rw [show Try.prog.globals.size = 0 from by kernel_rfl]; exact Nat.zero_le _
theorem start_ok (W : World) : Gd W (St.start W) := ⟨Nat.le_refl _, Nat.le_refl _, fun _ _ => rfl⟩
set_option maxRecDepth 100000 in
theorem lifted (os : Os) (started : os.Started) (H : Type) (enc : TypeId × Value → H) (F0 : Stop.Interp) :
    ReturnsInHanded {} Try.checked os 6 .any ((Rows.OpenSpec.upto Rows.portFillsSpec).pre6 enc Try.prog Try.f6 Rows.portFillsUptoRow.domain false) (((Rows.OpenSpec.upto Rows.portFillsSpec).at F0).post enc Try.prog Try.f6 false true false false) := by
  refine handed_small (C := Try.checked) (s := (Rows.OpenSpec.upto Rows.portFillsSpec)) (k := Rows.uptoSmall) rfl own started (by kernel_rfl) Try.func6
    (Go.OpenSpec.witness (enc := enc) (C := Try.checked) (s := (Rows.OpenSpec.upto Rows.portFillsSpec)) (k := Rows.uptoSmall) rfl false ⟨#[], #[.int .u8 0, .slice none 0 0], []⟩ 8 (by kernel_rfl) (by kernel_rfl) (by kernel_rfl) (x := ([.lit (.int .u8 0), .nil], [], [])) (by kernel_rfl) (by kernel_rfl) (by kernel_rfl)) ?_
  intro W base args ds gs before hval0 hW hsmall hsz0
  have hsz : (DataW.weightsEach Try.prog (Try.f6.params.toList ++ Rows.portFillsSpec.plain.varTypes Try.prog) (ds ++ gs)).all (· ≤ reachBytes) = true := hsz0
  have hval : ∀ (j : Nat) t v, Try.f6.params[j]? = some t → args[j]? = some v → Value.okWide Try.prog W .any base t v := hval0
  have hW' : DataW.Whole enc Try.prog Try.f6.params.toList Rows.portFillsSpec.vars false W args.toList ds gs before := hW
  have hW : DataW.Whole enc Try.prog Try.f6.params.toList Rows.portFillsSpec.vars false W args.toList ds gs before := hW
  obtain ⟨p, q, hA0, hV, rfl, hfz, hnd⟩ := hW
  have hA : DataW.TrodAll enc Try.prog W 0 (fun _ => true) true Try.f6.params.toList args.toList ds p := hA0
  rw [Try.params6] at hA hval hsz
  obtain ⟨v0, vs0, d0, ds0, p0, q0, hargs, rfl, rfl, h0, r0⟩ := trodAll_cons hA
  obtain ⟨v1, vs1, d1, ds1, p1, q1, rfl, rfl, rfl, h1, r1⟩ := trodAll_cons r0
  obtain ⟨rfl, rfl, rfl⟩ := trodAll_nil r1
  obtain rfl : args = #[v0, v1] := by cases args; simp_all
  obtain ⟨rfl, rfl⟩ := trodVars_none hV
  obtain ⟨x0, rfl, rfl, rfl, w0⟩ := open_int Try.underlying5 (hval 0 5 v0 rfl rfl) h0
  have k1 := h1
  have lt1 : ∀ x ∈ p1, x.block < W.heap.size := by obtain ⟨m, hm⟩ := k1; exact DataW.trod_lt m _ _ _ hm
  have ww1 := E.weights_at hsz (j := 1) (t := 45) (d := d1) rfl rfl
  obtain ⟨fu1, hf1⟩ := h1
  obtain ⟨aa1, ln1, cp1, rfl⟩ := okWide_slice Try.underlying45 (hval 1 45 v1 rfl rfl)
  have hg1 : DataW.trod enc Try.prog W 0 (fun _ => true) true fu1 45 [.slice aa1 ln1 cp1] = some (d1, p1) := hf1
  obtain ⟨l1, o1, y1, r1⟩ := old_slice (T := BT) (y := (d1, p1)) Try.underlying45 (by kernel_rfl) (Rf.bool Try.underlying4) hg1 ww1 (hval 1 45 _ rfl rfl)
  have z1 : l1.length ≤ 1048576 := by
    have b1 : ln1 ≤ Rows.uptoBulk d1 := bulk_slice Try.underlying45 hg1
    have b2 : Rows.uptoBulk d1 ≤ 1048576 := Nat.le_trans (bulk_mem (by simp)) (of_decide_eq_true hsmall)
    obtain ⟨a9, c9, e9⟩ := o1.form
    injection e9 with _ e9 _
    omega
  clear hA0 hval0 hsz0 hsz
  obtain ⟨⟨v, S'⟩, e, ev⟩ := fills_law (W := W) (S := St.start W) (start_ok W) x0 w0 o1 (by omega)
  obtain rfl : v = .bool true := ev
  refine (calls_of_W (P := Try.prog) (hG_of W) (by kernel_rfl) (fun v hv => ?_) e).mono ?_
  · simp only [List.mem_toArray, List.mem_cons, List.not_mem_nil, or_false] at hv
    rcases hv with rfl | rfl
    · exact rfl
    · exact o1.old
  rintro e W' ⟨rfl, bel⟩
  exact ⟨_, rfl, _, _, _, [], _, [], hW', trodAll_mk1 (shut_bool Try.underlying4 _), (trodAll_cons_mk (shut_int Try.underlying5 w0) (trodAll_cons_mk (Below.trod laidOut (by kernel_rfl) (of_decide_eq_true (by kernel_rfl)) k1 bel lt1) trodAll_mk0)), rfl, bel.frame _, fun h => by cases h⟩
theorem over : Rows.portFillsUptoRow.holds Try.pinned (Rows.OpenSpec.upto Rows.portFillsSpec) :=
  OpenClaim.holds_of_cond 6 Try.f6 rfl rfl rfl rfl rfl rfl rfl ⟨rfl, rfl, rfl, rfl, rfl⟩ rfl rfl rfl rfl rfl (by kernel_rfl) Try.func6 (by kernel_rfl)
    (of_decide_eq_true (by kernel_rfl)) (by unfold Func.isWrapper; first | (rw [if_pos (by decide +kernel)]; kernel_rfl) | (rw [if_neg (by decide +kernel)]; exact ⟨rfl, rfl⟩))
    (fun os started H enc _ F0 => lifted os started H enc F0)
theorem proved : Rows.PortFillsUptoSaid := over
#print axioms proved
end Go.Proofs.Ytjfmapoangigoaa.portFills
namespace Go.Proofs.Ytjfmapoangigoaa
/-- The row, under a short name, for the claim. -/
theorem portFillsUpto_holds : Rows.PortFillsUptoSaid := portFills.proved
end Go.Proofs.Ytjfmapoangigoaa
