/-
  NARROWER THAN 'FOR EVERY INPUT', by the rows' own cells (each row's printed sentence says how): MachRuns: laid · MachAlone: laid · MachStays: laid · MachStrengths: laid · MachJoins: laid.
  DERIVED. THE GIVEN ROWS OF THIS SEAT. 5 by the template 'for every input the law returns true; each argument reads behind the call as it read before'; 0 by the template 'total and deterministic' (their statements: YtnnajiaaakkjfaaDoorTotals.lean).
  GIVEN WITH THE SEED: the statements are not yours to turn. If you find one false, say at which input.
  Laid BY PROGRAM, IN A SANDBOX (cutbox-rows.mjs): the forced cells as the released guide's own fill.sh prints them over the translation 02d73cc2f476c6b1… (all of the seat's roots in one cut). By AI agents, Wed Nov 11 2026. No macro, syntax, notation, axiom, sorry.
-/
import Derived.Test.YtnnajiaaakkjfaaDoorChecked
import GoSem.Claim
import GoSem.ClaimJoined
import GoSem.ClaimMapViews
import Derived.JoinedTies
import Derived.KernelRfl
namespace Go.Proofs.YtnnajiaaakkjfaaDoor
/- THE CELL 'sum', in the pinned program and in every row, IS THE sha256 OF THE DUMP (.gsa) THAT YtnnajiaaakkjfaaDoorProg.lean LOADS. Nothing in Lean hashes anything: it is a label: what it is worth is what the hold of that sum in a sandbox is worth. -/
noncomputable def Tryd.pinned : Pinned := { name := "ytnnajiaaakkjfaadoor", sum := "02d73cc2f476c6b199fb17e77a8790e85cb7e10ec26e3715ba30f1164e9ef9db", checked := Tryd.checked }
namespace Rows
def none {H : Type} : Left H := { results := [], args := [] }

/- WHAT THE LISTED PACKAGE-LEVEL VARIABLES READ AS WHEN THE CALL BEGINS. Each datum BY PROGRAM (the guide's laid-datum.mjs) off the statement by which the dump's own 'gosem.cut.vars' lays the variable. In a bare row this is a premise. The card (YtnnajiaaakkjfaaDoorCards.lean) ties it to the program's text. -/
def laid_math_bits_deBruijn32tab {H : Type} : DataW H := .agg [.lit (.int .u8 0), .lit (.int .u8 1), .lit (.int .u8 28), .lit (.int .u8 2), .lit (.int .u8 29), .lit (.int .u8 14), .lit (.int .u8 24), .lit (.int .u8 3), .lit (.int .u8 30), .lit (.int .u8 22), .lit (.int .u8 20), .lit (.int .u8 15), .lit (.int .u8 25), .lit (.int .u8 17), .lit (.int .u8 4), .lit (.int .u8 8), .lit (.int .u8 31), .lit (.int .u8 27), .lit (.int .u8 13), .lit (.int .u8 23), .lit (.int .u8 21), .lit (.int .u8 19), .lit (.int .u8 16), .lit (.int .u8 7), .lit (.int .u8 26), .lit (.int .u8 12), .lit (.int .u8 18), .lit (.int .u8 6), .lit (.int .u8 11), .lit (.int .u8 5), .lit (.int .u8 10), .lit (.int .u8 9)]

/-- 'tocsinlaw13.MachRuns': WHATEVER THE INPUT: true; the input reads as it did. -/
def machRunsSpec : ChangeSpec := { name := "machRuns", fn := fun _ => fun
  | [d1, d2] => { results := [.lit (.bool true)], args := [d1, d2] }
  | _ => none }
def machRunsRow : OpenClaim := { program := "ytnnajiaaakkjfaadoor", sum := "02d73cc2f476c6b199fb17e77a8790e85cb7e10ec26e3715ba30f1164e9ef9db", func := "tocsin/tocsinlaw13.MachRuns", spec := "machRuns", named := ["math/bits.deBruijn32tab"], apart := false, laid := [("math/bits.deBruijn32tab", laid_math_bits_deBruijn32tab)] }
def MachRunsSaid : Prop := machRunsRow.holds Tryd.pinned (OpenSpec.ofChange machRunsSpec)

/-- ITS FALSE NEIGHBOUR: 'it returns false'. Refute it at one input. -/
def machRunsWrong : ChangeSpec := { name := "machRuns", fn := fun _ => fun
  | [d1, d2] => { results := [.lit (.bool false)], args := [d1, d2] }
  | _ => none }
def MachRunsWrongFalsely : Prop := machRunsRow.holds Tryd.pinned (OpenSpec.ofChange machRunsWrong)

/-- 'tocsinlaw13.MachAlone': WHATEVER THE INPUT: true; the input reads as it did. -/
def machAloneSpec : ChangeSpec := { name := "machAlone", fn := fun _ => fun
  | [d1, d2] => { results := [.lit (.bool true)], args := [d1, d2] }
  | _ => none }
def machAloneRow : OpenClaim := { program := "ytnnajiaaakkjfaadoor", sum := "02d73cc2f476c6b199fb17e77a8790e85cb7e10ec26e3715ba30f1164e9ef9db", func := "tocsin/tocsinlaw13.MachAlone", spec := "machAlone", named := ["math/bits.deBruijn32tab"], apart := false, laid := [("math/bits.deBruijn32tab", laid_math_bits_deBruijn32tab)] }
def MachAloneSaid : Prop := machAloneRow.holds Tryd.pinned (OpenSpec.ofChange machAloneSpec)

/-- ITS FALSE NEIGHBOUR: 'it returns false'. Refute it at one input. -/
def machAloneWrong : ChangeSpec := { name := "machAlone", fn := fun _ => fun
  | [d1, d2] => { results := [.lit (.bool false)], args := [d1, d2] }
  | _ => none }
def MachAloneWrongFalsely : Prop := machAloneRow.holds Tryd.pinned (OpenSpec.ofChange machAloneWrong)

/-- 'tocsinlaw13.MachStays': WHATEVER THE INPUT: true; the input reads as it did. -/
def machStaysSpec : ChangeSpec := { name := "machStays", fn := fun _ => fun
  | [d1, d2, d3] => { results := [.lit (.bool true)], args := [d1, d2, d3] }
  | _ => none }
def machStaysRow : OpenClaim := { program := "ytnnajiaaakkjfaadoor", sum := "02d73cc2f476c6b199fb17e77a8790e85cb7e10ec26e3715ba30f1164e9ef9db", func := "tocsin/tocsinlaw13.MachStays", spec := "machStays", named := ["math/bits.deBruijn32tab"], apart := false, laid := [("math/bits.deBruijn32tab", laid_math_bits_deBruijn32tab)] }
def MachStaysSaid : Prop := machStaysRow.holds Tryd.pinned (OpenSpec.ofChange machStaysSpec)

/-- ITS FALSE NEIGHBOUR: 'it returns false'. Refute it at one input. -/
def machStaysWrong : ChangeSpec := { name := "machStays", fn := fun _ => fun
  | [d1, d2, d3] => { results := [.lit (.bool false)], args := [d1, d2, d3] }
  | _ => none }
def MachStaysWrongFalsely : Prop := machStaysRow.holds Tryd.pinned (OpenSpec.ofChange machStaysWrong)

/-- 'tocsinlaw13.MachStrengths': WHATEVER THE INPUT: true; the input reads as it did. -/
def machStrengthsSpec : ChangeSpec := { name := "machStrengths", fn := fun _ => fun
  | [d1, d2, d3] => { results := [.lit (.bool true)], args := [d1, d2, d3] }
  | _ => none }
def machStrengthsRow : OpenClaim := { program := "ytnnajiaaakkjfaadoor", sum := "02d73cc2f476c6b199fb17e77a8790e85cb7e10ec26e3715ba30f1164e9ef9db", func := "tocsin/tocsinlaw13.MachStrengths", spec := "machStrengths", named := ["math/bits.deBruijn32tab"], apart := false, laid := [("math/bits.deBruijn32tab", laid_math_bits_deBruijn32tab)] }
def MachStrengthsSaid : Prop := machStrengthsRow.holds Tryd.pinned (OpenSpec.ofChange machStrengthsSpec)

/-- ITS FALSE NEIGHBOUR: 'it returns false'. Refute it at one input. -/
def machStrengthsWrong : ChangeSpec := { name := "machStrengths", fn := fun _ => fun
  | [d1, d2, d3] => { results := [.lit (.bool false)], args := [d1, d2, d3] }
  | _ => none }
def MachStrengthsWrongFalsely : Prop := machStrengthsRow.holds Tryd.pinned (OpenSpec.ofChange machStrengthsWrong)

/-- 'tocsinlaw13.MachJoins': WHATEVER THE INPUT: true; the input reads as it did. -/
def machJoinsSpec : ChangeSpec := { name := "machJoins", fn := fun _ => fun
  | [d1, d2, d3] => { results := [.lit (.bool true)], args := [d1, d2, d3] }
  | _ => none }
def machJoinsRow : OpenClaim := { program := "ytnnajiaaakkjfaadoor", sum := "02d73cc2f476c6b199fb17e77a8790e85cb7e10ec26e3715ba30f1164e9ef9db", func := "tocsin/tocsinlaw13.MachJoins", spec := "machJoins", named := ["math/bits.deBruijn32tab"], apart := false, laid := [("math/bits.deBruijn32tab", laid_math_bits_deBruijn32tab)] }
def MachJoinsSaid : Prop := machJoinsRow.holds Tryd.pinned (OpenSpec.ofChange machJoinsSpec)

/-- ITS FALSE NEIGHBOUR: 'it returns false'. Refute it at one input. -/
def machJoinsWrong : ChangeSpec := { name := "machJoins", fn := fun _ => fun
  | [d1, d2, d3] => { results := [.lit (.bool false)], args := [d1, d2, d3] }
  | _ => none }
def MachJoinsWrongFalsely : Prop := machJoinsRow.holds Tryd.pinned (OpenSpec.ofChange machJoinsWrong)

/- THE SECOND FORM. 'bulk': how many values and letters a reading holds, each counted each time it is reached (what is shared counts as often as it is met; a slice's spare places count too). A statement '..UptoSaid' is the law's where the arguments, and the package variables that the reading takes, are together of bulk at most 1048576: NARROWER than '..Said'. Prove '..Said' where nothing that the law and all that it calls make is longer than what came in: it says more and counts as full. Else prove '..UptoSaid'. A law counts once. -/
mutual
def uptoBulk {H : Type} : DataW H → Nat
  | .lit (.string bytes) => bytes.length + 1
  | .lit _ => 1
  | .nil => 1
  | .ptr d => uptoBulk d + 1
  | .slice elems spare => uptoBulkAll elems + uptoBulkAll spare + 1
  | .agg parts => uptoBulkAll parts + 1
  | .iface _ d => uptoBulk d + 1
  | .map entries => uptoBulkEntries entries + 1
  | .held _ => 1
def uptoBulkAll {H : Type} : List (DataW H) → Nat
  | [] => 0
  | d :: r => uptoBulk d + uptoBulkAll r
def uptoBulkEntries {H : Type} : List (Lit × DataW H) → Nat
  | [] => 0
  | x :: r => uptoBulkEntry x + uptoBulkEntries r
def uptoBulkEntry {H : Type} : Lit × DataW H → Nat
  | (.string bytes, d) => bytes.length + uptoBulk d + 1
  | (_, d) => uptoBulk d + 1
 end
def uptoSmall : (H : Type) → List (DataW H) → Bool := fun _ ds => decide (uptoBulkAll ds ≤ 1048576)
def OpenSpec.upto (s : _root_.Go.ChangeSpec) : _root_.Go.OpenSpec := { _root_.Go.OpenSpec.ofChange s with cond := some uptoSmall }

/-- 'tocsinlaw13.MachRuns', WHERE WHAT IT READS IS OF BULK AT MOST 1048576: true; the input reads as it did. -/
def machRunsUptoRow : OpenClaim := { program := "ytnnajiaaakkjfaadoor", sum := "02d73cc2f476c6b199fb17e77a8790e85cb7e10ec26e3715ba30f1164e9ef9db", func := "tocsin/tocsinlaw13.MachRuns", spec := "machRuns", named := ["math/bits.deBruijn32tab"], apart := false, laid := [("math/bits.deBruijn32tab", laid_math_bits_deBruijn32tab)], narrowed := true }
def MachRunsUptoSaid : Prop := machRunsUptoRow.holds Tryd.pinned (OpenSpec.upto machRunsSpec)

/-- 'tocsinlaw13.MachAlone', WHERE WHAT IT READS IS OF BULK AT MOST 1048576: true; the input reads as it did. -/
def machAloneUptoRow : OpenClaim := { program := "ytnnajiaaakkjfaadoor", sum := "02d73cc2f476c6b199fb17e77a8790e85cb7e10ec26e3715ba30f1164e9ef9db", func := "tocsin/tocsinlaw13.MachAlone", spec := "machAlone", named := ["math/bits.deBruijn32tab"], apart := false, laid := [("math/bits.deBruijn32tab", laid_math_bits_deBruijn32tab)], narrowed := true }
def MachAloneUptoSaid : Prop := machAloneUptoRow.holds Tryd.pinned (OpenSpec.upto machAloneSpec)

/-- 'tocsinlaw13.MachStays', WHERE WHAT IT READS IS OF BULK AT MOST 1048576: true; the input reads as it did. -/
def machStaysUptoRow : OpenClaim := { program := "ytnnajiaaakkjfaadoor", sum := "02d73cc2f476c6b199fb17e77a8790e85cb7e10ec26e3715ba30f1164e9ef9db", func := "tocsin/tocsinlaw13.MachStays", spec := "machStays", named := ["math/bits.deBruijn32tab"], apart := false, laid := [("math/bits.deBruijn32tab", laid_math_bits_deBruijn32tab)], narrowed := true }
def MachStaysUptoSaid : Prop := machStaysUptoRow.holds Tryd.pinned (OpenSpec.upto machStaysSpec)

/-- 'tocsinlaw13.MachStrengths', WHERE WHAT IT READS IS OF BULK AT MOST 1048576: true; the input reads as it did. -/
def machStrengthsUptoRow : OpenClaim := { program := "ytnnajiaaakkjfaadoor", sum := "02d73cc2f476c6b199fb17e77a8790e85cb7e10ec26e3715ba30f1164e9ef9db", func := "tocsin/tocsinlaw13.MachStrengths", spec := "machStrengths", named := ["math/bits.deBruijn32tab"], apart := false, laid := [("math/bits.deBruijn32tab", laid_math_bits_deBruijn32tab)], narrowed := true }
def MachStrengthsUptoSaid : Prop := machStrengthsUptoRow.holds Tryd.pinned (OpenSpec.upto machStrengthsSpec)

/-- 'tocsinlaw13.MachJoins', WHERE WHAT IT READS IS OF BULK AT MOST 1048576: true; the input reads as it did. -/
def machJoinsUptoRow : OpenClaim := { program := "ytnnajiaaakkjfaadoor", sum := "02d73cc2f476c6b199fb17e77a8790e85cb7e10ec26e3715ba30f1164e9ef9db", func := "tocsin/tocsinlaw13.MachJoins", spec := "machJoins", named := ["math/bits.deBruijn32tab"], apart := false, laid := [("math/bits.deBruijn32tab", laid_math_bits_deBruijn32tab)], narrowed := true }
def MachJoinsUptoSaid : Prop := machJoinsUptoRow.holds Tryd.pinned (OpenSpec.upto machJoinsSpec)

end Rows
end Go.Proofs.YtnnajiaaakkjfaaDoor
