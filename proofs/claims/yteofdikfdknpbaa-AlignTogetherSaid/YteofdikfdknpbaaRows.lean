/-
  No cell of these rows narrows 'for every input' (looked for: loops, veiled, ifaces, maps, wideKeys, modest, calm, conditions, laid).
  DERIVED. THE GIVEN ROWS OF THIS SEAT. 4 by the template 'for every input the law returns true; each argument reads behind the call as it read before'; 0 by the template 'total and deterministic' (their statements: YteofdikfdknpbaaTotals.lean).
  GIVEN WITH THE SEED: the statements are not yours to turn. If you find one false, say at which input.
  Laid BY PROGRAM, IN A SANDBOX (cutbox-rows.mjs): the forced cells as the released guide's own fill.sh prints them over the translation 096b2384bda57aef… (all of the seat's roots in one cut). By AI agents, Wed Nov 11 2026. No macro, syntax, notation, axiom, sorry.
-/
import Derived.Test.YteofdikfdknpbaaChecked
import GoSem.Claim
import GoSem.ClaimJoined
import GoSem.ClaimMapViews
import Derived.JoinedTies
import Derived.KernelRfl
namespace Go.Proofs.Yteofdikfdknpbaa
/- THE CELL 'sum', in the pinned program and in every row, IS THE sha256 OF THE DUMP (.gsa) THAT YteofdikfdknpbaaProg.lean LOADS. Nothing in Lean hashes anything: it is a label: what it is worth is what the hold of that sum in a sandbox is worth. -/
noncomputable def Try.pinned : Pinned := { name := "yteofdikfdknpbaa", sum := "096b2384bda57aeff805d48dcce66fce4c3e95da7dd639ead71afc3d75dc3b11", checked := Try.checked }
namespace Rows
def none {H : Type} : Left H := { results := [], args := [] }

/-- 'tocsinlaw12.AlignExpects': WHATEVER THE INPUT: true; the input reads as it did. -/
def alignExpectsSpec : ChangeSpec := { name := "alignExpects", fn := fun _ => fun
  | [d1, d2, d3] => { results := [.lit (.bool true)], args := [d1, d2, d3] }
  | _ => none }
def alignExpectsRow : OpenClaim := { program := "yteofdikfdknpbaa", sum := "096b2384bda57aeff805d48dcce66fce4c3e95da7dd639ead71afc3d75dc3b11", func := "tocsin/tocsinlaw12.AlignExpects", spec := "alignExpects", unfollowed := true, recurses := true, apart := false }
def AlignExpectsSaid : Prop := alignExpectsRow.holds Try.pinned (OpenSpec.ofChange alignExpectsSpec)

/-- ITS FALSE NEIGHBOUR: 'it returns false'. Refute it at one input. -/
def alignExpectsWrong : ChangeSpec := { name := "alignExpects", fn := fun _ => fun
  | [d1, d2, d3] => { results := [.lit (.bool false)], args := [d1, d2, d3] }
  | _ => none }
def AlignExpectsWrongFalsely : Prop := alignExpectsRow.holds Try.pinned (OpenSpec.ofChange alignExpectsWrong)

/-- 'tocsinlaw12.AlignTogether': WHATEVER THE INPUT: true; the input reads as it did. -/
def alignTogetherSpec : ChangeSpec := { name := "alignTogether", fn := fun _ => fun
  | [d1, d2, d3] => { results := [.lit (.bool true)], args := [d1, d2, d3] }
  | _ => none }
def alignTogetherRow : OpenClaim := { program := "yteofdikfdknpbaa", sum := "096b2384bda57aeff805d48dcce66fce4c3e95da7dd639ead71afc3d75dc3b11", func := "tocsin/tocsinlaw12.AlignTogether", spec := "alignTogether", unfollowed := true, recurses := true, apart := false }
def AlignTogetherSaid : Prop := alignTogetherRow.holds Try.pinned (OpenSpec.ofChange alignTogetherSpec)

/-- ITS FALSE NEIGHBOUR: 'it returns false'. Refute it at one input. -/
def alignTogetherWrong : ChangeSpec := { name := "alignTogether", fn := fun _ => fun
  | [d1, d2, d3] => { results := [.lit (.bool false)], args := [d1, d2, d3] }
  | _ => none }
def AlignTogetherWrongFalsely : Prop := alignTogetherRow.holds Try.pinned (OpenSpec.ofChange alignTogetherWrong)

/-- 'tocsinlaw12.AlignBest': WHATEVER THE INPUT: true; the input reads as it did. -/
def alignBestSpec : ChangeSpec := { name := "alignBest", fn := fun _ => fun
  | [d1, d2] => { results := [.lit (.bool true)], args := [d1, d2] }
  | _ => none }
def alignBestRow : OpenClaim := { program := "yteofdikfdknpbaa", sum := "096b2384bda57aeff805d48dcce66fce4c3e95da7dd639ead71afc3d75dc3b11", func := "tocsin/tocsinlaw12.AlignBest", spec := "alignBest", unfollowed := true, recurses := true, apart := false }
def AlignBestSaid : Prop := alignBestRow.holds Try.pinned (OpenSpec.ofChange alignBestSpec)

/-- ITS FALSE NEIGHBOUR: 'it returns false'. Refute it at one input. -/
def alignBestWrong : ChangeSpec := { name := "alignBest", fn := fun _ => fun
  | [d1, d2] => { results := [.lit (.bool false)], args := [d1, d2] }
  | _ => none }
def AlignBestWrongFalsely : Prop := alignBestRow.holds Try.pinned (OpenSpec.ofChange alignBestWrong)

/-- 'tocsinlaw12.AlignFar': WHATEVER THE INPUT: true; the input reads as it did. -/
def alignFarSpec : ChangeSpec := { name := "alignFar", fn := fun _ => fun
  | [d1, d2, d3] => { results := [.lit (.bool true)], args := [d1, d2, d3] }
  | _ => none }
def alignFarRow : OpenClaim := { program := "yteofdikfdknpbaa", sum := "096b2384bda57aeff805d48dcce66fce4c3e95da7dd639ead71afc3d75dc3b11", func := "tocsin/tocsinlaw12.AlignFar", spec := "alignFar", unfollowed := true, recurses := true, apart := false }
def AlignFarSaid : Prop := alignFarRow.holds Try.pinned (OpenSpec.ofChange alignFarSpec)

/-- ITS FALSE NEIGHBOUR: 'it returns false'. Refute it at one input. -/
def alignFarWrong : ChangeSpec := { name := "alignFar", fn := fun _ => fun
  | [d1, d2, d3] => { results := [.lit (.bool false)], args := [d1, d2, d3] }
  | _ => none }
def AlignFarWrongFalsely : Prop := alignFarRow.holds Try.pinned (OpenSpec.ofChange alignFarWrong)

/- THE SECOND FORM. 'bulk': how many values and letters a reading holds, each counted each time it is reached (what is shared counts as often as it is met; a slice's spare places count too). A statement '..UptoSaid' is the law's where the arguments, and the package variables that the reading takes, are together of bulk at most 1048576: NARROWER than '..Said'. Prove '..Said' where nothing that the law and all that it calls make is longer than what came in: it says more and counts as full. Else prove '..UptoSaid'. A law counts once. -/
mutual
def uptoBulk {H : Type} : DataW H → Nat
  | .lit (.string bytes) => bytes.length + 1
  | .lit _ => 1
  | .nil => 1
  | .ptr d => uptoBulk d + 1
  | .slice elems spare => uptoBulkAll elems + uptoBulkAll spare + 1
  | .agg parts => uptoBulkAll parts + 1
  | .iface _ d => uptoBulk d + 1
  | .map entries => uptoBulkEntries entries + 1
  | .held _ => 1
def uptoBulkAll {H : Type} : List (DataW H) → Nat
  | [] => 0
  | d :: r => uptoBulk d + uptoBulkAll r
def uptoBulkEntries {H : Type} : List (Lit × DataW H) → Nat
  | [] => 0
  | x :: r => uptoBulkEntry x + uptoBulkEntries r
def uptoBulkEntry {H : Type} : Lit × DataW H → Nat
  | (.string bytes, d) => bytes.length + uptoBulk d + 1
  | (_, d) => uptoBulk d + 1
 end
def uptoSmall : (H : Type) → List (DataW H) → Bool := fun _ ds => decide (uptoBulkAll ds ≤ 1048576)
def OpenSpec.upto (s : _root_.Go.ChangeSpec) : _root_.Go.OpenSpec := { _root_.Go.OpenSpec.ofChange s with cond := some uptoSmall }

/-- 'tocsinlaw12.AlignExpects', WHERE WHAT IT READS IS OF BULK AT MOST 1048576: true; the input reads as it did. -/
def alignExpectsUptoRow : OpenClaim := { program := "yteofdikfdknpbaa", sum := "096b2384bda57aeff805d48dcce66fce4c3e95da7dd639ead71afc3d75dc3b11", func := "tocsin/tocsinlaw12.AlignExpects", spec := "alignExpects", unfollowed := true, recurses := true, apart := false, narrowed := true }
def AlignExpectsUptoSaid : Prop := alignExpectsUptoRow.holds Try.pinned (OpenSpec.upto alignExpectsSpec)

/-- 'tocsinlaw12.AlignTogether', WHERE WHAT IT READS IS OF BULK AT MOST 1048576: true; the input reads as it did. -/
def alignTogetherUptoRow : OpenClaim := { program := "yteofdikfdknpbaa", sum := "096b2384bda57aeff805d48dcce66fce4c3e95da7dd639ead71afc3d75dc3b11", func := "tocsin/tocsinlaw12.AlignTogether", spec := "alignTogether", unfollowed := true, recurses := true, apart := false, narrowed := true }
def AlignTogetherUptoSaid : Prop := alignTogetherUptoRow.holds Try.pinned (OpenSpec.upto alignTogetherSpec)

/-- 'tocsinlaw12.AlignBest', WHERE WHAT IT READS IS OF BULK AT MOST 1048576: true; the input reads as it did. -/
def alignBestUptoRow : OpenClaim := { program := "yteofdikfdknpbaa", sum := "096b2384bda57aeff805d48dcce66fce4c3e95da7dd639ead71afc3d75dc3b11", func := "tocsin/tocsinlaw12.AlignBest", spec := "alignBest", unfollowed := true, recurses := true, apart := false, narrowed := true }
def AlignBestUptoSaid : Prop := alignBestUptoRow.holds Try.pinned (OpenSpec.upto alignBestSpec)

/-- 'tocsinlaw12.AlignFar', WHERE WHAT IT READS IS OF BULK AT MOST 1048576: true; the input reads as it did. -/
def alignFarUptoRow : OpenClaim := { program := "yteofdikfdknpbaa", sum := "096b2384bda57aeff805d48dcce66fce4c3e95da7dd639ead71afc3d75dc3b11", func := "tocsin/tocsinlaw12.AlignFar", spec := "alignFar", unfollowed := true, recurses := true, apart := false, narrowed := true }
def AlignFarUptoSaid : Prop := alignFarUptoRow.holds Try.pinned (OpenSpec.upto alignFarSpec)

end Rows
end Go.Proofs.Yteofdikfdknpbaa
