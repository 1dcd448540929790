-- Written by a program for this claim.
import Derived.Test.YtgeheedfmdlefaaRows
import Derived.Test.YtgeheedfmdlefaaRead
import Derived.Test.YtgeheedfmdlefaaPFx30
import Derived.Test.YtgeheedfmdlefaaPureFrameBits
import Derived.WalkKit
import Derived.ProofKit
import Derived.OpenShut
import Derived.ShutString
import Derived.ChangeOld
import Derived.Below
import Derived.SizedLaws
import Derived.Lib.SmallJoins
namespace Go.Proofs.Ytgeheedfmdlefaa.frameBits
open Go.ChangeShapes Go.WideShapes Go.ChangeAt Go.RowKit Go.Joins Go.Proofs.Ytgeheedfmdlefaa Go.Proofs.Ytgeheedfmdlefaa.PF Go.Proofs.YtgeheedfmdlefaaW.PrintWords
open Go.ChangeMaps (open_string shut_string)
set_option linter.unusedVariables false
theorem own : ownKnob Try.prog.godebug = none := by kernel_rfl
theorem laidOut : laidOutB Try.prog = true := by kernel_rfl
theorem rd_S24 : Read.Rd Try.prog k24 24 (fun x => ((Lit.int .i64 x.f0).wf = true) ∧ ((Lit.int .i64 x.f1).wf = true) ∧ ((Lit.int .i64 x.f2).wf = true) ∧ ((Lit.int .u32 x.f3).wf = true) ∧ ((Lit.int .i64 x.f4).wf = true)) := by
  intro H enc w base spare held fuel cs y h hw
  obtain ⟨hl, n, hf⟩ := Read.rd_struct Try.underlying24 h hw
  have hl' : cs.length = 5 := hl.trans (by kernel_rfl)
  clear hl
  match cs, hl' with
  | [c0, c1, c2, c3, c4], _ =>
    obtain ⟨z0, hz0, hw0⟩ := hf 0 _ rfl
    have e0 : ((([c0, c1, c2, c3, c4] : List Value).drop 0).take (Try.prog.cellsOf 3)) = [c0] := by rw [show Try.prog.cellsOf 3 = 1 from by kernel_rfl]; rfl
    obtain ⟨x0, hk0, hr0⟩ := (show Read.Rd Try.prog (Kd.int .i64) 3 (fun x => (Lit.int .i64 x).wf = true) from (Read.Rd.int Try.underlying3)) enc w base spare held n [c0] z0 (by rw [← e0]; exact hz0) hw0
    injection hk0 with q0 _
    obtain ⟨z1, hz1, hw1⟩ := hf 1 _ rfl
    have e1 : ((([c0, c1, c2, c3, c4] : List Value).drop 1).take (Try.prog.cellsOf 3)) = [c1] := by rw [show Try.prog.cellsOf 3 = 1 from by kernel_rfl]; rfl
    obtain ⟨x1, hk1, hr1⟩ := (show Read.Rd Try.prog (Kd.int .i64) 3 (fun x => (Lit.int .i64 x).wf = true) from (Read.Rd.int Try.underlying3)) enc w base spare held n [c1] z1 (by rw [← e1]; exact hz1) hw1
    injection hk1 with q1 _
    obtain ⟨z2, hz2, hw2⟩ := hf 2 _ rfl
    have e2 : ((([c0, c1, c2, c3, c4] : List Value).drop 2).take (Try.prog.cellsOf 2)) = [c2] := by rw [show Try.prog.cellsOf 2 = 1 from by kernel_rfl]; rfl
    obtain ⟨x2, hk2, hr2⟩ := (show Read.Rd Try.prog (Kd.int .i64) 2 (fun x => (Lit.int .i64 x).wf = true) from (Read.Rd.int Try.underlying2)) enc w base spare held n [c2] z2 (by rw [← e2]; exact hz2) hw2
    injection hk2 with q2 _
    obtain ⟨z3, hz3, hw3⟩ := hf 3 _ rfl
    have e3 : ((([c0, c1, c2, c3, c4] : List Value).drop 3).take (Try.prog.cellsOf 22)) = [c3] := by rw [show Try.prog.cellsOf 22 = 1 from by kernel_rfl]; rfl
    obtain ⟨x3, hk3, hr3⟩ := (show Read.Rd Try.prog (Kd.int .u32) 22 (fun x => (Lit.int .u32 x).wf = true) from (Read.Rd.int Try.underlying22)) enc w base spare held n [c3] z3 (by rw [← e3]; exact hz3) hw3
    injection hk3 with q3 _
    obtain ⟨z4, hz4, hw4⟩ := hf 4 _ rfl
    have e4 : ((([c0, c1, c2, c3, c4] : List Value).drop 4).take (Try.prog.cellsOf 2)) = [c4] := by rw [show Try.prog.cellsOf 2 = 1 from by kernel_rfl]; rfl
    obtain ⟨x4, hk4, hr4⟩ := (show Read.Rd Try.prog (Kd.int .i64) 2 (fun x => (Lit.int .i64 x).wf = true) from (Read.Rd.int Try.underlying2)) enc w base spare held n [c4] z4 (by rw [← e4]; exact hz4) hw4
    injection hk4 with q4 _
    subst q0
    subst q1
    subst q2
    subst q3
    subst q4
    exact ⟨⟨x0, x1, x2, x3, x4⟩, k24_mk w _ , hr0, hr1, hr2, hr3, hr4⟩

theorem rd_S36 : Read.Rd Try.prog k36 36 (fun x => ((Lit.int .i64 x.f0).wf = true) ∧ ((Lit.int .i64 x.f1).wf = true) ∧ ((Lit.int .i64 x.f2).wf = true) ∧ (x.f3.size ≤ 140737488351232) ∧ ((Lit.int .i64 x.f4).wf = true)) := by
  intro H enc w base spare held fuel cs y h hw
  obtain ⟨hl, n, hf⟩ := Read.rd_struct Try.underlying36 h hw
  have hl' : cs.length = 5 := hl.trans (by kernel_rfl)
  clear hl
  match cs, hl' with
  | [c0, c1, c2, c3, c4], _ =>
    obtain ⟨z0, hz0, hw0⟩ := hf 0 _ rfl
    have e0 : ((([c0, c1, c2, c3, c4] : List Value).drop 0).take (Try.prog.cellsOf 3)) = [c0] := by rw [show Try.prog.cellsOf 3 = 1 from by kernel_rfl]; rfl
    obtain ⟨x0, hk0, hr0⟩ := (show Read.Rd Try.prog (Kd.int .i64) 3 (fun x => (Lit.int .i64 x).wf = true) from (Read.Rd.int Try.underlying3)) enc w base spare held n [c0] z0 (by rw [← e0]; exact hz0) hw0
    injection hk0 with q0 _
    obtain ⟨z1, hz1, hw1⟩ := hf 1 _ rfl
    have e1 : ((([c0, c1, c2, c3, c4] : List Value).drop 1).take (Try.prog.cellsOf 3)) = [c1] := by rw [show Try.prog.cellsOf 3 = 1 from by kernel_rfl]; rfl
    obtain ⟨x1, hk1, hr1⟩ := (show Read.Rd Try.prog (Kd.int .i64) 3 (fun x => (Lit.int .i64 x).wf = true) from (Read.Rd.int Try.underlying3)) enc w base spare held n [c1] z1 (by rw [← e1]; exact hz1) hw1
    injection hk1 with q1 _
    obtain ⟨z2, hz2, hw2⟩ := hf 2 _ rfl
    have e2 : ((([c0, c1, c2, c3, c4] : List Value).drop 2).take (Try.prog.cellsOf 3)) = [c2] := by rw [show Try.prog.cellsOf 3 = 1 from by kernel_rfl]; rfl
    obtain ⟨x2, hk2, hr2⟩ := (show Read.Rd Try.prog (Kd.int .i64) 3 (fun x => (Lit.int .i64 x).wf = true) from (Read.Rd.int Try.underlying3)) enc w base spare held n [c2] z2 (by rw [← e2]; exact hz2) hw2
    injection hk2 with q2 _
    obtain ⟨z3, hz3, hw3⟩ := hf 3 _ rfl
    have e3 : ((([c0, c1, c2, c3, c4] : List Value).drop 3).take (Try.prog.cellsOf 9)) = [c3] := by rw [show Try.prog.cellsOf 9 = 1 from by kernel_rfl]; rfl
    obtain ⟨x3, hk3, hr3⟩ := (show Read.Rd Try.prog Kd.string 9 (fun x => x.size ≤ 140737488351232) from (Read.Rd.string Try.underlying9)) enc w base spare held n [c3] z3 (by rw [← e3]; exact hz3) hw3
    injection hk3 with q3 _
    obtain ⟨z4, hz4, hw4⟩ := hf 4 _ rfl
    have e4 : ((([c0, c1, c2, c3, c4] : List Value).drop 4).take (Try.prog.cellsOf 3)) = [c4] := by rw [show Try.prog.cellsOf 3 = 1 from by kernel_rfl]; rfl
    obtain ⟨x4, hk4, hr4⟩ := (show Read.Rd Try.prog (Kd.int .i64) 3 (fun x => (Lit.int .i64 x).wf = true) from (Read.Rd.int Try.underlying3)) enc w base spare held n [c4] z4 (by rw [← e4]; exact hz4) hw4
    injection hk4 with q4 _
    subst q0
    subst q1
    subst q2
    subst q3
    subst q4
    exact ⟨⟨x0, x1, x2, x3, x4⟩, k36_mk w _ , hr0, hr1, hr2, hr3, hr4⟩

set_option maxRecDepth 100000 in
theorem lifted (os : Os) (started : os.Started) (H : Type) (enc : TypeId × Value → H) :
    ReturnsInHanded {} Try.checked os 7 .any (Rows.frameBitsSpec.pre6 enc Try.prog Try.f7 Rows.frameBitsRow.domain false) (Rows.frameBitsSpec.post enc Try.prog Try.f7 false true false false) := by
  refine returnsInHanded_of_change_sized (C := Try.checked) own started (by kernel_rfl) Try.func7
    (ChangeSpec.witness6 (enc := enc) (C := Try.checked) false ⟨#[], #[.agg #[.int .i64 0, .int .i64 0, .int .i64 0, .int .u32 0, .int .i64 0], .agg #[.int .i64 0, .int .i64 0, .int .i64 0, .string ByteArray.empty, .int .i64 0], .int .i64 0], []⟩ 8 (by kernel_rfl) (by kernel_rfl) (by kernel_rfl) (by kernel_rfl)) ?_
  intro W base args ds gs before hval0 hW hcnd hsz0 _
  have hsz : (DataW.weightsEach Try.prog (Try.f7.params.toList ++ Rows.frameBitsSpec.plain.varTypes Try.prog) (ds ++ gs)).all (· ≤ reachBytes) = true := hsz0
  have hval : ∀ (j : Nat) t v, Try.f7.params[j]? = some t → args[j]? = some v → Value.okWide Try.prog W .any base t v := hval0
  have hW' := hW
  obtain ⟨p, q, hA0, hV, rfl, hfz, hnd⟩ := hW
  have hA : DataW.TrodAll enc Try.prog W 0 (fun _ => true) true Try.f7.params.toList args.toList ds p := hA0
  rw [Try.params7] at hA hval hsz
  obtain ⟨v0, vs0, d0, ds0, p0, q0, hargs, rfl, rfl, h0, r0⟩ := trodAll_cons hA
  obtain ⟨v1, vs1, d1, ds1, p1, q1, rfl, rfl, rfl, h1, r1⟩ := trodAll_cons r0
  obtain ⟨v2, vs2, d2, ds2, p2, q2, rfl, rfl, rfl, h2, r2⟩ := trodAll_cons r1
  obtain ⟨rfl, rfl, rfl⟩ := trodAll_nil r2
  obtain rfl : args = #[v0, v1, v2] := by cases args; simp_all
  obtain ⟨rfl, rfl⟩ := trodVars_none hV
  have k0 := h0
  have lt0 : ∀ x ∈ p0, x.block < W.heap.size := by obtain ⟨m, hm⟩ := k0; exact DataW.trod_lt m _ _ _ hm
  have ww0 := Read.weights_at hsz (j := 0) (t := 24) (d := d0) rfl rfl
  obtain ⟨fu0, hf0⟩ := h0
  obtain ⟨x0, hk0, hr0⟩ := (show Read.Rd Try.prog k24 24 (fun x => ((Lit.int .i64 x.f0).wf = true) ∧ ((Lit.int .i64 x.f1).wf = true) ∧ ((Lit.int .i64 x.f2).wf = true) ∧ ((Lit.int .u32 x.f3).wf = true) ∧ ((Lit.int .i64 x.f4).wf = true)) from rd_S24) enc W 0 _ _ fu0 _ _ hf0 ww0
  clear hf0 ww0
  obtain ⟨cs0, rfl, _⟩ := okWide_struct Try.underlying24 (hval 0 24 v0 rfl rfl)
  have e0 := k24_open hk0
  obtain rfl : cs0 = #[.int .i64 x0.f0, .int .i64 x0.f1, .int .i64 x0.f2, .int .u32 x0.f3, .int .i64 x0.f4] := by cases cs0; simpa [Value.cells] using e0
  have k1 := h1
  have lt1 : ∀ x ∈ p1, x.block < W.heap.size := by obtain ⟨m, hm⟩ := k1; exact DataW.trod_lt m _ _ _ hm
  have ww1 := Read.weights_at hsz (j := 1) (t := 36) (d := d1) rfl rfl
  obtain ⟨fu1, hf1⟩ := h1
  obtain ⟨x1, hk1, hr1⟩ := (show Read.Rd Try.prog k36 36 (fun x => ((Lit.int .i64 x.f0).wf = true) ∧ ((Lit.int .i64 x.f1).wf = true) ∧ ((Lit.int .i64 x.f2).wf = true) ∧ (x.f3.size ≤ 140737488351232) ∧ ((Lit.int .i64 x.f4).wf = true)) from rd_S36) enc W 0 _ _ fu1 _ _ hf1 ww1
  clear hf1 ww1
  obtain ⟨cs1, rfl, _⟩ := okWide_struct Try.underlying36 (hval 1 36 v1 rfl rfl)
  have e1 := k36_open hk1
  obtain rfl : cs1 = #[.int .i64 x1.f0, .int .i64 x1.f1, .int .i64 x1.f2, .string x1.f3, .int .i64 x1.f4] := by cases cs1; simpa [Value.cells] using e1
  obtain ⟨x2, rfl, rfl, rfl, w2⟩ := open_int Try.underlying3 (hval 2 3 v2 rfl rfl) h2
  clear hA0 hval0 hsz0 hsz
  obtain ⟨k, hP⟩ := Pure.FrameBits x0.f0 x0.f1 x0.f2 x0.f3 x0.f4 x1.f0 x1.f1 x1.f2 x1.f3 x1.f4 x2 hr0.1 hr0.2.1 hr0.2.2.1 hr0.2.2.2.1 hr0.2.2.2.2 hr1.1 hr1.2.1 hr1.2.2.1 hr1.2.2.2.1 hr1.2.2.2.2 w2
  refine (tocsinlaw06_FrameBits.calls k x0.f0 x0.f1 x0.f2 x0.f3 x0.f4 x1.f0 x1.f1 x1.f2 x1.f3 x1.f4 x2 true W  hP).mono ?_
  rintro e W' ⟨rfl, bel0⟩
  have bel : Below W.heap.size W W' := bel0
  exact ⟨_, rfl, _, _, _, [], _, [], hW', trodAll_mk1 (shut_bool Try.underlying4 _), (trodAll_cons_mk (Below.trod laidOut (by kernel_rfl) (of_decide_eq_true (by kernel_rfl)) k0 bel lt0) (trodAll_cons_mk (Below.trod laidOut (by kernel_rfl) (of_decide_eq_true (by kernel_rfl)) k1 bel lt1) (trodAll_cons_mk (shut_int Try.underlying3 w2) trodAll_mk0))), rfl, bel.frame _, fun h => by cases h⟩
theorem over : Rows.frameBitsRow.holds Try.pinned (OpenSpec.ofChange Rows.frameBitsSpec) :=
  OpenClaim.holds_of_wide 7 Try.f7 rfl rfl rfl rfl rfl rfl rfl ⟨rfl, rfl, rfl, rfl, rfl⟩ rfl rfl rfl rfl rfl (by kernel_rfl) Try.func7 (by kernel_rfl)
    (of_decide_eq_true (by kernel_rfl)) (by unfold Func.isWrapper; first | (rw [if_pos (by decide +kernel)]; kernel_rfl) | (rw [if_neg (by decide +kernel)]; exact ⟨rfl, rfl⟩))
    (fun os started H enc _ => lifted os started H enc)
theorem proved : Rows.FrameBitsSaid := over
#print axioms proved
end Go.Proofs.Ytgeheedfmdlefaa.frameBits
namespace Go.Proofs.Ytgeheedfmdlefaa
/-- The row, under a short name, for the claim. -/
theorem frameBits_holds : Rows.FrameBitsSaid := frameBits.proved
end Go.Proofs.Ytgeheedfmdlefaa
