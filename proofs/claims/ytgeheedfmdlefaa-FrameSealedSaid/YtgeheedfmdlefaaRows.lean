/-
  No cell of these rows narrows 'for every input' (looked for: loops, veiled, ifaces, maps, wideKeys, modest, calm, conditions, laid).
  DERIVED. THE GIVEN ROWS OF THIS SEAT. 8 by the template 'for every input the law returns true; each argument reads behind the call as it read before'; 0 by the template 'total and deterministic' (their statements: YtgeheedfmdlefaaTotals.lean).
  GIVEN WITH THE SEED: the statements are not yours to turn. If you find one false, say at which input.
  Laid BY PROGRAM, IN A SANDBOX (cutbox-rows.mjs): the forced cells as the released guide's own fill.sh prints them over the translation d51749be02a163e8… (all of the seat's roots in one cut). By AI agents, Wed Nov 11 2026. No macro, syntax, notation, axiom, sorry.
-/
import Derived.Test.YtgeheedfmdlefaaChecked
import GoSem.Claim
import GoSem.ClaimJoined
import GoSem.ClaimMapViews
import Derived.JoinedTies
import Derived.KernelRfl
namespace Go.Proofs.Ytgeheedfmdlefaa
/- THE CELL 'sum', in the pinned program and in every row, IS THE sha256 OF THE DUMP (.gsa) THAT YtgeheedfmdlefaaProg.lean LOADS. Nothing in Lean hashes anything: it is a label: what it is worth is what the hold of that sum in a sandbox is worth. -/
noncomputable def Try.pinned : Pinned := { name := "ytgeheedfmdlefaa", sum := "d51749be02a163e84a96b7b8eeb3b4149b1b20e70e2bd9a20c0757c4380b24fb", checked := Try.checked }
namespace Rows
def none {H : Type} : Left H := { results := [], args := [] }

/-- 'tocsinlaw06.FrameControls': WHATEVER THE INPUT: true; the input reads as it did. -/
def frameControlsSpec : ChangeSpec := { name := "frameControls", fn := fun _ => fun
  | [d] => { results := [.lit (.bool true)], args := [d] }
  | _ => none }
def frameControlsRow : OpenClaim := { program := "ytgeheedfmdlefaa", sum := "d51749be02a163e84a96b7b8eeb3b4149b1b20e70e2bd9a20c0757c4380b24fb", func := "tocsin/tocsinlaw06.FrameControls", spec := "frameControls", apart := false }
def FrameControlsSaid : Prop := frameControlsRow.holds Try.pinned (OpenSpec.ofChange frameControlsSpec)

/-- ITS FALSE NEIGHBOUR: 'it returns false'. Refute it at one input. -/
def frameControlsWrong : ChangeSpec := { name := "frameControls", fn := fun _ => fun
  | [d] => { results := [.lit (.bool false)], args := [d] }
  | _ => none }
def FrameControlsWrongFalsely : Prop := frameControlsRow.holds Try.pinned (OpenSpec.ofChange frameControlsWrong)

/-- 'tocsinlaw06.FrameDatas': WHATEVER THE INPUT: true; the input reads as it did. -/
def frameDatasSpec : ChangeSpec := { name := "frameDatas", fn := fun _ => fun
  | [d] => { results := [.lit (.bool true)], args := [d] }
  | _ => none }
def frameDatasRow : OpenClaim := { program := "ytgeheedfmdlefaa", sum := "d51749be02a163e84a96b7b8eeb3b4149b1b20e70e2bd9a20c0757c4380b24fb", func := "tocsin/tocsinlaw06.FrameDatas", spec := "frameDatas", apart := false }
def FrameDatasSaid : Prop := frameDatasRow.holds Try.pinned (OpenSpec.ofChange frameDatasSpec)

/-- ITS FALSE NEIGHBOUR: 'it returns false'. Refute it at one input. -/
def frameDatasWrong : ChangeSpec := { name := "frameDatas", fn := fun _ => fun
  | [d] => { results := [.lit (.bool false)], args := [d] }
  | _ => none }
def FrameDatasWrongFalsely : Prop := frameDatasRow.holds Try.pinned (OpenSpec.ofChange frameDatasWrong)

/-- 'tocsinlaw06.FrameReads': WHATEVER THE INPUT: true; the input reads as it did. -/
def frameReadsSpec : ChangeSpec := { name := "frameReads", fn := fun _ => fun
  | [d] => { results := [.lit (.bool true)], args := [d] }
  | _ => none }
def frameReadsRow : OpenClaim := { program := "ytgeheedfmdlefaa", sum := "d51749be02a163e84a96b7b8eeb3b4149b1b20e70e2bd9a20c0757c4380b24fb", func := "tocsin/tocsinlaw06.FrameReads", spec := "frameReads", apart := false }
def FrameReadsSaid : Prop := frameReadsRow.holds Try.pinned (OpenSpec.ofChange frameReadsSpec)

/-- ITS FALSE NEIGHBOUR: 'it returns false'. Refute it at one input. -/
def frameReadsWrong : ChangeSpec := { name := "frameReads", fn := fun _ => fun
  | [d] => { results := [.lit (.bool false)], args := [d] }
  | _ => none }
def FrameReadsWrongFalsely : Prop := frameReadsRow.holds Try.pinned (OpenSpec.ofChange frameReadsWrong)

/-- 'tocsinlaw06.FrameSealed': WHATEVER THE INPUT: true; the input reads as it did. -/
def frameSealedSpec : ChangeSpec := { name := "frameSealed", fn := fun _ => fun
  | [d] => { results := [.lit (.bool true)], args := [d] }
  | _ => none }
def frameSealedRow : OpenClaim := { program := "ytgeheedfmdlefaa", sum := "d51749be02a163e84a96b7b8eeb3b4149b1b20e70e2bd9a20c0757c4380b24fb", func := "tocsin/tocsinlaw06.FrameSealed", spec := "frameSealed", apart := false }
def FrameSealedSaid : Prop := frameSealedRow.holds Try.pinned (OpenSpec.ofChange frameSealedSpec)

/-- ITS FALSE NEIGHBOUR: 'it returns false'. Refute it at one input. -/
def frameSealedWrong : ChangeSpec := { name := "frameSealed", fn := fun _ => fun
  | [d] => { results := [.lit (.bool false)], args := [d] }
  | _ => none }
def FrameSealedWrongFalsely : Prop := frameSealedRow.holds Try.pinned (OpenSpec.ofChange frameSealedWrong)

/-- 'tocsinlaw06.FrameBits': WHATEVER THE INPUT: true; the input reads as it did. -/
def frameBitsSpec : ChangeSpec := { name := "frameBits", fn := fun _ => fun
  | [d1, d2, d3] => { results := [.lit (.bool true)], args := [d1, d2, d3] }
  | _ => none }
def frameBitsRow : OpenClaim := { program := "ytgeheedfmdlefaa", sum := "d51749be02a163e84a96b7b8eeb3b4149b1b20e70e2bd9a20c0757c4380b24fb", func := "tocsin/tocsinlaw06.FrameBits", spec := "frameBits", apart := false }
def FrameBitsSaid : Prop := frameBitsRow.holds Try.pinned (OpenSpec.ofChange frameBitsSpec)

/-- ITS FALSE NEIGHBOUR: 'it returns false'. Refute it at one input. -/
def frameBitsWrong : ChangeSpec := { name := "frameBits", fn := fun _ => fun
  | [d1, d2, d3] => { results := [.lit (.bool false)], args := [d1, d2, d3] }
  | _ => none }
def FrameBitsWrongFalsely : Prop := frameBitsRow.holds Try.pinned (OpenSpec.ofChange frameBitsWrong)

/-- 'tocsinlaw06.FrameTimes': WHATEVER THE INPUT: true; the input reads as it did. -/
def frameTimesSpec : ChangeSpec := { name := "frameTimes", fn := fun _ => fun
  | [d1, d2] => { results := [.lit (.bool true)], args := [d1, d2] }
  | _ => none }
def frameTimesRow : OpenClaim := { program := "ytgeheedfmdlefaa", sum := "d51749be02a163e84a96b7b8eeb3b4149b1b20e70e2bd9a20c0757c4380b24fb", func := "tocsin/tocsinlaw06.FrameTimes", spec := "frameTimes", apart := false }
def FrameTimesSaid : Prop := frameTimesRow.holds Try.pinned (OpenSpec.ofChange frameTimesSpec)

/-- ITS FALSE NEIGHBOUR: 'it returns false'. Refute it at one input. -/
def frameTimesWrong : ChangeSpec := { name := "frameTimes", fn := fun _ => fun
  | [d1, d2] => { results := [.lit (.bool false)], args := [d1, d2] }
  | _ => none }
def FrameTimesWrongFalsely : Prop := frameTimesRow.holds Try.pinned (OpenSpec.ofChange frameTimesWrong)

/-- 'tocsinlaw06.FrameKeeps': WHATEVER THE INPUT: true; the input reads as it did. -/
def frameKeepsSpec : ChangeSpec := { name := "frameKeeps", fn := fun _ => fun
  | [d1, d2] => { results := [.lit (.bool true)], args := [d1, d2] }
  | _ => none }
def frameKeepsRow : OpenClaim := { program := "ytgeheedfmdlefaa", sum := "d51749be02a163e84a96b7b8eeb3b4149b1b20e70e2bd9a20c0757c4380b24fb", func := "tocsin/tocsinlaw06.FrameKeeps", spec := "frameKeeps", apart := false }
def FrameKeepsSaid : Prop := frameKeepsRow.holds Try.pinned (OpenSpec.ofChange frameKeepsSpec)

/-- ITS FALSE NEIGHBOUR: 'it returns false'. Refute it at one input. -/
def frameKeepsWrong : ChangeSpec := { name := "frameKeeps", fn := fun _ => fun
  | [d1, d2] => { results := [.lit (.bool false)], args := [d1, d2] }
  | _ => none }
def FrameKeepsWrongFalsely : Prop := frameKeepsRow.holds Try.pinned (OpenSpec.ofChange frameKeepsWrong)

/-- 'tocsinlaw06.FrameSizes': WHATEVER THE INPUT: true; the input reads as it did. -/
def frameSizesSpec : ChangeSpec := { name := "frameSizes", fn := fun _ => fun
  | [d1, d2] => { results := [.lit (.bool true)], args := [d1, d2] }
  | _ => none }
def frameSizesRow : OpenClaim := { program := "ytgeheedfmdlefaa", sum := "d51749be02a163e84a96b7b8eeb3b4149b1b20e70e2bd9a20c0757c4380b24fb", func := "tocsin/tocsinlaw06.FrameSizes", spec := "frameSizes", apart := false }
def FrameSizesSaid : Prop := frameSizesRow.holds Try.pinned (OpenSpec.ofChange frameSizesSpec)

/-- ITS FALSE NEIGHBOUR: 'it returns false'. Refute it at one input. -/
def frameSizesWrong : ChangeSpec := { name := "frameSizes", fn := fun _ => fun
  | [d1, d2] => { results := [.lit (.bool false)], args := [d1, d2] }
  | _ => none }
def FrameSizesWrongFalsely : Prop := frameSizesRow.holds Try.pinned (OpenSpec.ofChange frameSizesWrong)

/- THE SECOND FORM. 'bulk': how many values and letters a reading holds, each counted each time it is reached (what is shared counts as often as it is met; a slice's spare places count too). A statement '..UptoSaid' is the law's where the arguments, and the package variables that the reading takes, are together of bulk at most 1048576: NARROWER than '..Said'. Prove '..Said' where nothing that the law and all that it calls make is longer than what came in: it says more and counts as full. Else prove '..UptoSaid'. A law counts once. -/
mutual
def uptoBulk {H : Type} : DataW H → Nat
  | .lit (.string bytes) => bytes.length + 1
  | .lit _ => 1
  | .nil => 1
  | .ptr d => uptoBulk d + 1
  | .slice elems spare => uptoBulkAll elems + uptoBulkAll spare + 1
  | .agg parts => uptoBulkAll parts + 1
  | .iface _ d => uptoBulk d + 1
  | .map entries => uptoBulkEntries entries + 1
  | .held _ => 1
def uptoBulkAll {H : Type} : List (DataW H) → Nat
  | [] => 0
  | d :: r => uptoBulk d + uptoBulkAll r
def uptoBulkEntries {H : Type} : List (Lit × DataW H) → Nat
  | [] => 0
  | x :: r => uptoBulkEntry x + uptoBulkEntries r
def uptoBulkEntry {H : Type} : Lit × DataW H → Nat
  | (.string bytes, d) => bytes.length + uptoBulk d + 1
  | (_, d) => uptoBulk d + 1
 end
def uptoSmall : (H : Type) → List (DataW H) → Bool := fun _ ds => decide (uptoBulkAll ds ≤ 1048576)
def OpenSpec.upto (s : _root_.Go.ChangeSpec) : _root_.Go.OpenSpec := { _root_.Go.OpenSpec.ofChange s with cond := some uptoSmall }

/-- 'tocsinlaw06.FrameControls', WHERE WHAT IT READS IS OF BULK AT MOST 1048576: true; the input reads as it did. -/
def frameControlsUptoRow : OpenClaim := { program := "ytgeheedfmdlefaa", sum := "d51749be02a163e84a96b7b8eeb3b4149b1b20e70e2bd9a20c0757c4380b24fb", func := "tocsin/tocsinlaw06.FrameControls", spec := "frameControls", apart := false, narrowed := true }
def FrameControlsUptoSaid : Prop := frameControlsUptoRow.holds Try.pinned (OpenSpec.upto frameControlsSpec)

/-- 'tocsinlaw06.FrameDatas', WHERE WHAT IT READS IS OF BULK AT MOST 1048576: true; the input reads as it did. -/
def frameDatasUptoRow : OpenClaim := { program := "ytgeheedfmdlefaa", sum := "d51749be02a163e84a96b7b8eeb3b4149b1b20e70e2bd9a20c0757c4380b24fb", func := "tocsin/tocsinlaw06.FrameDatas", spec := "frameDatas", apart := false, narrowed := true }
def FrameDatasUptoSaid : Prop := frameDatasUptoRow.holds Try.pinned (OpenSpec.upto frameDatasSpec)

/-- 'tocsinlaw06.FrameReads', WHERE WHAT IT READS IS OF BULK AT MOST 1048576: true; the input reads as it did. -/
def frameReadsUptoRow : OpenClaim := { program := "ytgeheedfmdlefaa", sum := "d51749be02a163e84a96b7b8eeb3b4149b1b20e70e2bd9a20c0757c4380b24fb", func := "tocsin/tocsinlaw06.FrameReads", spec := "frameReads", apart := false, narrowed := true }
def FrameReadsUptoSaid : Prop := frameReadsUptoRow.holds Try.pinned (OpenSpec.upto frameReadsSpec)

/-- 'tocsinlaw06.FrameSealed', WHERE WHAT IT READS IS OF BULK AT MOST 1048576: true; the input reads as it did. -/
def frameSealedUptoRow : OpenClaim := { program := "ytgeheedfmdlefaa", sum := "d51749be02a163e84a96b7b8eeb3b4149b1b20e70e2bd9a20c0757c4380b24fb", func := "tocsin/tocsinlaw06.FrameSealed", spec := "frameSealed", apart := false, narrowed := true }
def FrameSealedUptoSaid : Prop := frameSealedUptoRow.holds Try.pinned (OpenSpec.upto frameSealedSpec)

/-- 'tocsinlaw06.FrameBits', WHERE WHAT IT READS IS OF BULK AT MOST 1048576: true; the input reads as it did. -/
def frameBitsUptoRow : OpenClaim := { program := "ytgeheedfmdlefaa", sum := "d51749be02a163e84a96b7b8eeb3b4149b1b20e70e2bd9a20c0757c4380b24fb", func := "tocsin/tocsinlaw06.FrameBits", spec := "frameBits", apart := false, narrowed := true }
def FrameBitsUptoSaid : Prop := frameBitsUptoRow.holds Try.pinned (OpenSpec.upto frameBitsSpec)

/-- 'tocsinlaw06.FrameTimes', WHERE WHAT IT READS IS OF BULK AT MOST 1048576: true; the input reads as it did. -/
def frameTimesUptoRow : OpenClaim := { program := "ytgeheedfmdlefaa", sum := "d51749be02a163e84a96b7b8eeb3b4149b1b20e70e2bd9a20c0757c4380b24fb", func := "tocsin/tocsinlaw06.FrameTimes", spec := "frameTimes", apart := false, narrowed := true }
def FrameTimesUptoSaid : Prop := frameTimesUptoRow.holds Try.pinned (OpenSpec.upto frameTimesSpec)

/-- 'tocsinlaw06.FrameKeeps', WHERE WHAT IT READS IS OF BULK AT MOST 1048576: true; the input reads as it did. -/
def frameKeepsUptoRow : OpenClaim := { program := "ytgeheedfmdlefaa", sum := "d51749be02a163e84a96b7b8eeb3b4149b1b20e70e2bd9a20c0757c4380b24fb", func := "tocsin/tocsinlaw06.FrameKeeps", spec := "frameKeeps", apart := false, narrowed := true }
def FrameKeepsUptoSaid : Prop := frameKeepsUptoRow.holds Try.pinned (OpenSpec.upto frameKeepsSpec)

/-- 'tocsinlaw06.FrameSizes', WHERE WHAT IT READS IS OF BULK AT MOST 1048576: true; the input reads as it did. -/
def frameSizesUptoRow : OpenClaim := { program := "ytgeheedfmdlefaa", sum := "d51749be02a163e84a96b7b8eeb3b4149b1b20e70e2bd9a20c0757c4380b24fb", func := "tocsin/tocsinlaw06.FrameSizes", spec := "frameSizes", apart := false, narrowed := true }
def FrameSizesUptoSaid : Prop := frameSizesUptoRow.holds Try.pinned (OpenSpec.upto frameSizesSpec)

end Rows
end Go.Proofs.Ytgeheedfmdlefaa
