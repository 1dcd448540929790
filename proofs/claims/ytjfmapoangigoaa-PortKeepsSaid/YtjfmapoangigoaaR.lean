/- Scripts as they read. -/
import Derived.Test.YtjfmapoangigoaaM
namespace Go.Proofs.Ytjfmapoangigoaa.F
open Go Go.Proofs.Ytjfmapoangigoaa.E
set_option linter.unusedVariables false
set_option linter.unusedSimpArgs false

theorem rf_D : Rf Try.prog 30 dcs (fun _ => True) := by
  intro H enc w base spare held fuel cs y h hw
  obtain ⟨hl, n, hf⟩ := E.rd_struct Try.underlying30 h hw
  have hl' : cs.length = 5 := hl.trans (by kernel_rfl)
  clear hl
  match cs, hl' with
  | [c0, c1, c2, c3, c4], _ =>
    obtain ⟨z0, hz0, hw0⟩ := hf 0 _ rfl
    have e0 : ((([c0, c1, c2, c3, c4] : List Value).drop 0).take (Try.prog.cellsOf 3)) = [c0] := by rw [show Try.prog.cellsOf 3 = 1 from by kernel_rfl]; rfl
    obtain ⟨x0, h0, _⟩ := (show Rf Try.prog 3 _ _ from Rf.int Try.underlying3) enc w base spare held n _ z0 hz0 hw0
    have g0 := e0.symm.trans h0
    simp only [dcs, List.cons.injEq, and_true] at g0
    obtain ⟨z1, hz1, hw1⟩ := hf 1 _ rfl
    have e1 : ((([c0, c1, c2, c3, c4] : List Value).drop 1).take (Try.prog.cellsOf 3)) = [c1] := by rw [show Try.prog.cellsOf 3 = 1 from by kernel_rfl]; rfl
    obtain ⟨x1, h1, _⟩ := (show Rf Try.prog 3 _ _ from Rf.int Try.underlying3) enc w base spare held n _ z1 hz1 hw1
    have g1 := e1.symm.trans h1
    simp only [dcs, List.cons.injEq, and_true] at g1
    obtain ⟨z2, hz2, hw2⟩ := hf 2 _ rfl
    have e2 : ((([c0, c1, c2, c3, c4] : List Value).drop 2).take (Try.prog.cellsOf 3)) = [c2] := by rw [show Try.prog.cellsOf 3 = 1 from by kernel_rfl]; rfl
    obtain ⟨x2, h2, _⟩ := (show Rf Try.prog 3 _ _ from Rf.int Try.underlying3) enc w base spare held n _ z2 hz2 hw2
    have g2 := e2.symm.trans h2
    simp only [dcs, List.cons.injEq, and_true] at g2
    obtain ⟨z3, hz3, hw3⟩ := hf 3 _ rfl
    have e3 : ((([c0, c1, c2, c3, c4] : List Value).drop 3).take (Try.prog.cellsOf 9)) = [c3] := by rw [show Try.prog.cellsOf 9 = 1 from by kernel_rfl]; rfl
    obtain ⟨x3, h3, _⟩ := (show Rf Try.prog 9 _ _ from Rf.string Try.underlying9) enc w base spare held n _ z3 hz3 hw3
    have g3 := e3.symm.trans h3
    simp only [dcs, List.cons.injEq, and_true] at g3
    obtain ⟨z4, hz4, hw4⟩ := hf 4 _ rfl
    have e4 : ((([c0, c1, c2, c3, c4] : List Value).drop 4).take (Try.prog.cellsOf 3)) = [c4] := by rw [show Try.prog.cellsOf 3 = 1 from by kernel_rfl]; rfl
    obtain ⟨x4, h4, _⟩ := (show Rf Try.prog 3 _ _ from Rf.int Try.underlying3) enc w base spare held n _ z4 hz4 hw4
    have g4 := e4.symm.trans h4
    simp only [dcs, List.cons.injEq, and_true] at g4
    subst g0 g1 g2 g3 g4
    exact ⟨⟨x0, x1, x2, x3, x4⟩, rfl, trivial⟩
/-- What a script asks. -/
structure Op where
  k : Int
  d : D
def ocs (o : Op) : List Value := .int .i64 o.k :: dcs o.d
def OT : Enc Op := ⟨ocs, 6, by omega, fun _ => rfl, fun _ => rfl⟩
theorem rf_Op : Rf Try.prog 32 OT.cs (fun _ => True) := by
  intro H enc w base spare held fuel cs y h hw
  obtain ⟨hl, n, hf⟩ := E.rd_struct Try.underlying32 h hw
  have hl' : cs.length = 6 := hl.trans (by kernel_rfl)
  clear hl
  match cs, hl' with
  | [c0, c1, c2, c3, c4, c5], _ =>
    obtain ⟨z0, hz0, hw0⟩ := hf 0 _ rfl
    have e0 : ((([c0, c1, c2, c3, c4, c5] : List Value).drop 0).take (Try.prog.cellsOf 3)) = [c0] := by rw [show Try.prog.cellsOf 3 = 1 from by kernel_rfl]; rfl
    obtain ⟨x0, h0, _⟩ := (show Rf Try.prog 3 _ _ from Rf.int Try.underlying3) enc w base spare held n _ z0 hz0 hw0
    have g0 := e0.symm.trans h0
    simp only [dcs, List.cons.injEq, and_true] at g0
    obtain ⟨z1, hz1, hw1⟩ := hf 1 _ rfl
    have e1 : ((([c0, c1, c2, c3, c4, c5] : List Value).drop 1).take (Try.prog.cellsOf 30)) = [c1, c2, c3, c4, c5] := by rw [show Try.prog.cellsOf 30 = 5 from by kernel_rfl]; rfl
    obtain ⟨x1, h1, _⟩ := (show Rf Try.prog 30 _ _ from rf_D) enc w base spare held n _ z1 hz1 hw1
    have g1 := e1.symm.trans h1
    simp only [dcs, List.cons.injEq, and_true] at g1
    obtain ⟨rfl, rfl, rfl, rfl, rfl⟩ := g1
    subst g0
    exact ⟨⟨x0, x1⟩, rfl, trivial⟩
end Go.Proofs.Ytjfmapoangigoaa.F
