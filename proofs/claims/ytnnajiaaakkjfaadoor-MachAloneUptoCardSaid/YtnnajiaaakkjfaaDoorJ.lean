/- The laws of machines, as Go functions. -/
import Derived.Test.YtnnajiaaakkjfaaDoorI
namespace Go.Proofs.YtnnajiaaakkjfaaDoor.F
open Go Go.Proofs.YtnnajiaaakkjfaaDoor.E
set_option linter.unusedVariables false
set_option linter.unusedSimpArgs false
theorem u32_nat {x : Int} (h : (Lit.int .u32 x).wf = true) : ∃ c : {n : Nat // n < 4294967296}, x = (c.1 : Int) := by
  have h' : 0 ≤ x ∧ x < 4294967296 := by
    simp [Lit.wf, IntKind.min, IntKind.max, IntKind.signed, IntKind.bits] at h; omega
  exact ⟨⟨x.toNat, by omega⟩, by simp; omega⟩
theorem u8_nat {x : Int} (h : (Lit.int .u8 x).wf = true) : ∃ c : {n : Nat // n < 256}, x = (c.1 : Int) := by
  have h' : 0 ≤ x ∧ x < 256 := by
    simp [Lit.wf, IntKind.min, IntKind.max, IntKind.signed, IntKind.bits] at h; omega
  exact ⟨⟨x.toNat, by omega⟩, by simp; omega⟩
theorem i64_rng {x : Int} (h : (Lit.int .i64 x).wf = true) : -9223372036854775808 ≤ x ∧ x < 9223372036854775808 := by
  simp [Lit.wf, IntKind.min, IntKind.max, IntKind.signed, IntKind.bits] at h; omega
def rightM (m : M) : Prop := m.c < 4294967296 ∧ (-9223372036854775808 ≤ m.s ∧ m.s < 9223372036854775808) ∧ (-9223372036854775808 ≤ m.m ∧ m.m < 9223372036854775808) ∧ (-9223372036854775808 ≤ m.w ∧ m.w < 9223372036854775808)
theorem rf_M : Rf Tryd.prog 36 MT.cs rightM := by
  intro H enc w base spare held fuel cs y h hw
  obtain ⟨hl, n, hf⟩ := E.rd_struct Tryd.underlying36 h hw
  have hl' : cs.length = 4 := hl.trans (by kernel_rfl)
  clear hl
  match cs, hl' with
  | [c0, c1, c2, c3], _ =>
    obtain ⟨z0, hz0, hw0⟩ := hf 0 _ rfl
    have e0 : ((([c0, c1, c2, c3] : List Value).drop 0).take (Tryd.prog.cellsOf 3)) = [c0] := by rw [show Tryd.prog.cellsOf 3 = 1 from by kernel_rfl]; rfl
    obtain ⟨x0, h0, wf0⟩ := (show Rf Tryd.prog 3 _ _ from Rf.int Tryd.underlying3) enc w base spare held n _ z0 hz0 hw0
    have g0 := e0.symm.trans h0
    simp only [List.cons.injEq, and_true] at g0
    obtain ⟨z1, hz1, hw1⟩ := hf 1 _ rfl
    have e1 : ((([c0, c1, c2, c3] : List Value).drop 1).take (Tryd.prog.cellsOf 28)) = [c1] := by rw [show Tryd.prog.cellsOf 28 = 1 from by kernel_rfl]; rfl
    obtain ⟨x1, h1, wf1⟩ := (show Rf Tryd.prog 28 _ _ from Rf.int Tryd.underlying28) enc w base spare held n _ z1 hz1 hw1
    have g1 := e1.symm.trans h1
    simp only [List.cons.injEq, and_true] at g1
    obtain ⟨z2, hz2, hw2⟩ := hf 2 _ rfl
    have e2 : ((([c0, c1, c2, c3] : List Value).drop 2).take (Tryd.prog.cellsOf 3)) = [c2] := by rw [show Tryd.prog.cellsOf 3 = 1 from by kernel_rfl]; rfl
    obtain ⟨x2, h2, wf2⟩ := (show Rf Tryd.prog 3 _ _ from Rf.int Tryd.underlying3) enc w base spare held n _ z2 hz2 hw2
    have g2 := e2.symm.trans h2
    simp only [List.cons.injEq, and_true] at g2
    obtain ⟨z3, hz3, hw3⟩ := hf 3 _ rfl
    have e3 : ((([c0, c1, c2, c3] : List Value).drop 3).take (Tryd.prog.cellsOf 3)) = [c3] := by rw [show Tryd.prog.cellsOf 3 = 1 from by kernel_rfl]; rfl
    obtain ⟨x3, h3, wf3⟩ := (show Rf Tryd.prog 3 _ _ from Rf.int Tryd.underlying3) enc w base spare held n _ z3 hz3 hw3
    have g3 := e3.symm.trans h3
    simp only [List.cons.injEq, and_true] at g3
    subst g0 g1 g2 g3
    obtain ⟨c, rfl⟩ := u32_nat wf1
    exact ⟨⟨x0, c.1, x2, x3⟩, rfl, c.2, i64_rng wf0, i64_rng wf2, i64_rng wf3⟩

theorem rf_Ev : Rf Tryd.prog 32 ET.cs (fun e => e.c < 4294967296) := by
  intro H enc w base spare held fuel cs y h hw
  obtain ⟨hl, n, hf⟩ := E.rd_struct Tryd.underlying32 h hw
  have hl' : cs.length = 2 := hl.trans (by kernel_rfl)
  clear hl
  match cs, hl' with
  | [c0, c1], _ =>
    obtain ⟨z0, hz0, hw0⟩ := hf 0 _ rfl
    have e0 : ((([c0, c1] : List Value).drop 0).take (Tryd.prog.cellsOf 3)) = [c0] := by rw [show Tryd.prog.cellsOf 3 = 1 from by kernel_rfl]; rfl
    obtain ⟨x0, h0, wf0⟩ := (show Rf Tryd.prog 3 _ _ from Rf.int Tryd.underlying3) enc w base spare held n _ z0 hz0 hw0
    have g0 := e0.symm.trans h0
    simp only [List.cons.injEq, and_true] at g0
    obtain ⟨z1, hz1, hw1⟩ := hf 1 _ rfl
    have e1 : ((([c0, c1] : List Value).drop 1).take (Tryd.prog.cellsOf 28)) = [c1] := by rw [show Tryd.prog.cellsOf 28 = 1 from by kernel_rfl]; rfl
    obtain ⟨x1, h1, wf1⟩ := (show Rf Tryd.prog 28 _ _ from Rf.int Tryd.underlying28) enc w base spare held n _ z1 hz1 hw1
    have g1 := e1.symm.trans h1
    simp only [List.cons.injEq, and_true] at g1
    subst g0 g1
    obtain ⟨c, rfl⟩ := u32_nat wf1
    exact ⟨⟨x0, c.1⟩, rfl, c.2⟩

def UT : Enc Int := ⟨fun n => [.int .u8 n], 1, by omega, fun _ => rfl, fun _ => rfl⟩
theorem rf_u8 : Rf Tryd.prog 5 UT.cs (fun n => (Lit.int .u8 n).wf = true) := Rf.int Tryd.underlying5
section
variable {W : World} {S : St}
theorem strengths_law (g : Gd W S) (T : Tab W) (a : Int) (wa : (Lit.int .u32 a).wf = true) (b : Int) (wb : (Lit.int .u32 b).wf = true) (c : Int) (wc : (Lit.int .u32 c).wf = true) : Wp (cw W 6 #[.int .u32 a, .int .u32 b, .int .u32 c] S) fun r => r.1 = .bool true := by
  obtain ⟨⟨a, ha⟩, rfl⟩ := u32_nat wa
  obtain ⟨⟨b, hb⟩, rfl⟩ := u32_nat wb
  obtain ⟨⟨c, hc⟩, rfl⟩ := u32_nat wc
  obtain ⟨S', e⟩ := Strengths_ok g T a b c ha hb hc
  exact ⟨_, e, rfl⟩
end
end Go.Proofs.YtnnajiaaakkjfaaDoor.F
