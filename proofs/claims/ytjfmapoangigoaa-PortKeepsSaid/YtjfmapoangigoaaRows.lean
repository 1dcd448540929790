/-
  No cell of these rows narrows 'for every input' (looked for: loops, veiled, ifaces, maps, wideKeys, modest, calm, conditions, laid).
  DERIVED. THE GIVEN ROWS OF THIS SEAT. 4 by the template 'for every input the law returns true; each argument reads behind the call as it read before'; 0 by the template 'total and deterministic' (their statements: YtjfmapoangigoaaTotals.lean).
  GIVEN WITH THE SEED: the statements are not yours to turn. If you find one false, say at which input.
  Laid BY PROGRAM, IN A SANDBOX (cutbox-rows.mjs): the forced cells as the released guide's own fill.sh prints them over the translation 7639bb9357d5ec41… (all of the seat's roots in one cut). By AI agents, Wed Nov 11 2026. No macro, syntax, notation, axiom, sorry.
-/
import Derived.Test.YtjfmapoangigoaaChecked
import GoSem.Claim
import GoSem.ClaimJoined
import GoSem.ClaimMapViews
import Derived.JoinedTies
import Derived.KernelRfl
namespace Go.Proofs.Ytjfmapoangigoaa
/- THE CELL 'sum', in the pinned program and in every row, IS THE sha256 OF THE DUMP (.gsa) THAT YtjfmapoangigoaaProg.lean LOADS. Nothing in Lean hashes anything: it is a label: what it is worth is what the hold of that sum in a sandbox is worth. -/
noncomputable def Try.pinned : Pinned := { name := "ytjfmapoangigoaa", sum := "7639bb9357d5ec41db2c2ecbc51019d44b30dec42c7d2916ef9c1ca12e4fe770", checked := Try.checked }
namespace Rows
def none {H : Type} : Left H := { results := [], args := [] }

/-- 'tocsinlaw16.PortPlays': WHATEVER THE INPUT: true; the input reads as it did. -/
def portPlaysSpec : ChangeSpec := { name := "portPlays", fn := fun _ => fun
  | [d1, d2] => { results := [.lit (.bool true)], args := [d1, d2] }
  | _ => none }
def portPlaysRow : OpenClaim := { program := "ytjfmapoangigoaa", sum := "7639bb9357d5ec41db2c2ecbc51019d44b30dec42c7d2916ef9c1ca12e4fe770", func := "tocsin/tocsinlaw16.PortPlays", spec := "portPlays", apart := false }
def PortPlaysSaid : Prop := portPlaysRow.holds Try.pinned (OpenSpec.ofChange portPlaysSpec)

/-- ITS FALSE NEIGHBOUR: 'it returns false'. Refute it at one input. -/
def portPlaysWrong : ChangeSpec := { name := "portPlays", fn := fun _ => fun
  | [d1, d2] => { results := [.lit (.bool false)], args := [d1, d2] }
  | _ => none }
def PortPlaysWrongFalsely : Prop := portPlaysRow.holds Try.pinned (OpenSpec.ofChange portPlaysWrong)

/-- 'tocsinlaw16.PortKeeps': WHATEVER THE INPUT: true; the input reads as it did. -/
def portKeepsSpec : ChangeSpec := { name := "portKeeps", fn := fun _ => fun
  | [d1, d2] => { results := [.lit (.bool true)], args := [d1, d2] }
  | _ => none }
def portKeepsRow : OpenClaim := { program := "ytjfmapoangigoaa", sum := "7639bb9357d5ec41db2c2ecbc51019d44b30dec42c7d2916ef9c1ca12e4fe770", func := "tocsin/tocsinlaw16.PortKeeps", spec := "portKeeps", apart := false }
def PortKeepsSaid : Prop := portKeepsRow.holds Try.pinned (OpenSpec.ofChange portKeepsSpec)

/-- ITS FALSE NEIGHBOUR: 'it returns false'. Refute it at one input. -/
def portKeepsWrong : ChangeSpec := { name := "portKeeps", fn := fun _ => fun
  | [d1, d2] => { results := [.lit (.bool false)], args := [d1, d2] }
  | _ => none }
def PortKeepsWrongFalsely : Prop := portKeepsRow.holds Try.pinned (OpenSpec.ofChange portKeepsWrong)

/-- 'tocsinlaw16.PortRated': WHATEVER THE INPUT: true; the input reads as it did. -/
def portRatedSpec : ChangeSpec := { name := "portRated", fn := fun _ => fun
  | [d] => { results := [.lit (.bool true)], args := [d] }
  | _ => none }
def portRatedRow : OpenClaim := { program := "ytjfmapoangigoaa", sum := "7639bb9357d5ec41db2c2ecbc51019d44b30dec42c7d2916ef9c1ca12e4fe770", func := "tocsin/tocsinlaw16.PortRated", spec := "portRated", apart := false }
def PortRatedSaid : Prop := portRatedRow.holds Try.pinned (OpenSpec.ofChange portRatedSpec)

/-- ITS FALSE NEIGHBOUR: 'it returns false'. Refute it at one input. -/
def portRatedWrong : ChangeSpec := { name := "portRated", fn := fun _ => fun
  | [d] => { results := [.lit (.bool false)], args := [d] }
  | _ => none }
def PortRatedWrongFalsely : Prop := portRatedRow.holds Try.pinned (OpenSpec.ofChange portRatedWrong)

/-- 'tocsinlaw16.PortFills': WHATEVER THE INPUT: true; the input reads as it did. -/
def portFillsSpec : ChangeSpec := { name := "portFills", fn := fun _ => fun
  | [d1, d2] => { results := [.lit (.bool true)], args := [d1, d2] }
  | _ => none }
def portFillsRow : OpenClaim := { program := "ytjfmapoangigoaa", sum := "7639bb9357d5ec41db2c2ecbc51019d44b30dec42c7d2916ef9c1ca12e4fe770", func := "tocsin/tocsinlaw16.PortFills", spec := "portFills", apart := false }
def PortFillsSaid : Prop := portFillsRow.holds Try.pinned (OpenSpec.ofChange portFillsSpec)

/-- ITS FALSE NEIGHBOUR: 'it returns false'. Refute it at one input. -/
def portFillsWrong : ChangeSpec := { name := "portFills", fn := fun _ => fun
  | [d1, d2] => { results := [.lit (.bool false)], args := [d1, d2] }
  | _ => none }
def PortFillsWrongFalsely : Prop := portFillsRow.holds Try.pinned (OpenSpec.ofChange portFillsWrong)

/- THE SECOND FORM. 'bulk': how many values and letters a reading holds, each counted each time it is reached (what is shared counts as often as it is met; a slice's spare places count too). A statement '..UptoSaid' is the law's where the arguments, and the package variables that the reading takes, are together of bulk at most 1048576: NARROWER than '..Said'. Prove '..Said' where nothing that the law and all that it calls make is longer than what came in: it says more and counts as full. Else prove '..UptoSaid'. A law counts once. -/
mutual
def uptoBulk {H : Type} : DataW H → Nat
  | .lit (.string bytes) => bytes.length + 1
  | .lit _ => 1
  | .nil => 1
  | .ptr d => uptoBulk d + 1
  | .slice elems spare => uptoBulkAll elems + uptoBulkAll spare + 1
  | .agg parts => uptoBulkAll parts + 1
  | .iface _ d => uptoBulk d + 1
  | .map entries => uptoBulkEntries entries + 1
  | .held _ => 1
def uptoBulkAll {H : Type} : List (DataW H) → Nat
  | [] => 0
  | d :: r => uptoBulk d + uptoBulkAll r
def uptoBulkEntries {H : Type} : List (Lit × DataW H) → Nat
  | [] => 0
  | x :: r => uptoBulkEntry x + uptoBulkEntries r
def uptoBulkEntry {H : Type} : Lit × DataW H → Nat
  | (.string bytes, d) => bytes.length + uptoBulk d + 1
  | (_, d) => uptoBulk d + 1
 end
def uptoSmall : (H : Type) → List (DataW H) → Bool := fun _ ds => decide (uptoBulkAll ds ≤ 1048576)
def OpenSpec.upto (s : _root_.Go.ChangeSpec) : _root_.Go.OpenSpec := { _root_.Go.OpenSpec.ofChange s with cond := some uptoSmall }

/-- 'tocsinlaw16.PortPlays', WHERE WHAT IT READS IS OF BULK AT MOST 1048576: true; the input reads as it did. -/
def portPlaysUptoRow : OpenClaim := { program := "ytjfmapoangigoaa", sum := "7639bb9357d5ec41db2c2ecbc51019d44b30dec42c7d2916ef9c1ca12e4fe770", func := "tocsin/tocsinlaw16.PortPlays", spec := "portPlays", apart := false, narrowed := true }
def PortPlaysUptoSaid : Prop := portPlaysUptoRow.holds Try.pinned (OpenSpec.upto portPlaysSpec)

/-- 'tocsinlaw16.PortKeeps', WHERE WHAT IT READS IS OF BULK AT MOST 1048576: true; the input reads as it did. -/
def portKeepsUptoRow : OpenClaim := { program := "ytjfmapoangigoaa", sum := "7639bb9357d5ec41db2c2ecbc51019d44b30dec42c7d2916ef9c1ca12e4fe770", func := "tocsin/tocsinlaw16.PortKeeps", spec := "portKeeps", apart := false, narrowed := true }
def PortKeepsUptoSaid : Prop := portKeepsUptoRow.holds Try.pinned (OpenSpec.upto portKeepsSpec)

/-- 'tocsinlaw16.PortRated', WHERE WHAT IT READS IS OF BULK AT MOST 1048576: true; the input reads as it did. -/
def portRatedUptoRow : OpenClaim := { program := "ytjfmapoangigoaa", sum := "7639bb9357d5ec41db2c2ecbc51019d44b30dec42c7d2916ef9c1ca12e4fe770", func := "tocsin/tocsinlaw16.PortRated", spec := "portRated", apart := false, narrowed := true }
def PortRatedUptoSaid : Prop := portRatedUptoRow.holds Try.pinned (OpenSpec.upto portRatedSpec)

/-- 'tocsinlaw16.PortFills', WHERE WHAT IT READS IS OF BULK AT MOST 1048576: true; the input reads as it did. -/
def portFillsUptoRow : OpenClaim := { program := "ytjfmapoangigoaa", sum := "7639bb9357d5ec41db2c2ecbc51019d44b30dec42c7d2916ef9c1ca12e4fe770", func := "tocsin/tocsinlaw16.PortFills", spec := "portFills", apart := false, narrowed := true }
def PortFillsUptoSaid : Prop := portFillsUptoRow.holds Try.pinned (OpenSpec.upto portFillsSpec)

end Rows
end Go.Proofs.Ytjfmapoangigoaa
