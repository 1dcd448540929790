/-
  No cell of these rows narrows 'for every input' (looked for: loops, veiled, ifaces, maps, wideKeys, modest, calm, conditions, laid).
  DERIVED. THE GIVEN ROWS OF THIS SEAT. 7 by the template 'for every input the law returns true; each argument reads behind the call as it read before'; 0 by the template 'total and deterministic' (their statements: YtogcdgdnjinjkaaTotals.lean).
  GIVEN WITH THE SEED: the statements are not yours to turn. If you find one false, say at which input.
  Laid BY PROGRAM, IN A SANDBOX (cutbox-rows.mjs): the forced cells as the released guide's own fill.sh prints them over the translation fcc546f4b7e0d05d… (all of the seat's roots in one cut). By AI agents, Wed Nov 11 2026. No macro, syntax, notation, axiom, sorry.
-/
import Derived.Test.YtogcdgdnjinjkaaChecked
import GoSem.Claim
import GoSem.ClaimJoined
import GoSem.ClaimMapViews
import Derived.JoinedTies
import Derived.KernelRfl
namespace Go.Proofs.Ytogcdgdnjinjkaa
/- THE CELL 'sum', in the pinned program and in every row, IS THE sha256 OF THE DUMP (.gsa) THAT YtogcdgdnjinjkaaProg.lean LOADS. Nothing in Lean hashes anything: it is a label: what it is worth is what the hold of that sum in a sandbox is worth. -/
noncomputable def Try.pinned : Pinned := { name := "ytogcdgdnjinjkaa", sum := "fcc546f4b7e0d05df00b3efd0f71b7bba04aff591510e44724e468f76e65d44c", checked := Try.checked }
namespace Rows
def none {H : Type} : Left H := { results := [], args := [] }

/-- 'tocsinlaw08.ConfChecks': WHATEVER THE INPUT: true; the input reads as it did. -/
def confChecksSpec : ChangeSpec := { name := "confChecks", fn := fun _ => fun
  | [d] => { results := [.lit (.bool true)], args := [d] }
  | _ => none }
def confChecksRow : OpenClaim := { program := "ytogcdgdnjinjkaa", sum := "fcc546f4b7e0d05df00b3efd0f71b7bba04aff591510e44724e468f76e65d44c", func := "tocsin/tocsinlaw08.ConfChecks", spec := "confChecks", unfollowed := true, recurses := true, apart := false }
def ConfChecksSaid : Prop := confChecksRow.holds Try.pinned (OpenSpec.ofChange confChecksSpec)

/-- ITS FALSE NEIGHBOUR: 'it returns false'. Refute it at one input. -/
def confChecksWrong : ChangeSpec := { name := "confChecks", fn := fun _ => fun
  | [d] => { results := [.lit (.bool false)], args := [d] }
  | _ => none }
def ConfChecksWrongFalsely : Prop := confChecksRow.holds Try.pinned (OpenSpec.ofChange confChecksWrong)

/-- 'tocsinlaw08.ConfTimes': WHATEVER THE INPUT: true; the input reads as it did. -/
def confTimesSpec : ChangeSpec := { name := "confTimes", fn := fun _ => fun
  | [d1, d2] => { results := [.lit (.bool true)], args := [d1, d2] }
  | _ => none }
def confTimesRow : OpenClaim := { program := "ytogcdgdnjinjkaa", sum := "fcc546f4b7e0d05df00b3efd0f71b7bba04aff591510e44724e468f76e65d44c", func := "tocsin/tocsinlaw08.ConfTimes", spec := "confTimes", unfollowed := true, recurses := true, apart := false }
def ConfTimesSaid : Prop := confTimesRow.holds Try.pinned (OpenSpec.ofChange confTimesSpec)

/-- ITS FALSE NEIGHBOUR: 'it returns false'. Refute it at one input. -/
def confTimesWrong : ChangeSpec := { name := "confTimes", fn := fun _ => fun
  | [d1, d2] => { results := [.lit (.bool false)], args := [d1, d2] }
  | _ => none }
def ConfTimesWrongFalsely : Prop := confTimesRow.holds Try.pinned (OpenSpec.ofChange confTimesWrong)

/-- 'tocsinlaw08.ConfForwards': WHATEVER THE INPUT: true; the input reads as it did. -/
def confForwardsSpec : ChangeSpec := { name := "confForwards", fn := fun _ => fun
  | [d] => { results := [.lit (.bool true)], args := [d] }
  | _ => none }
def confForwardsRow : OpenClaim := { program := "ytogcdgdnjinjkaa", sum := "fcc546f4b7e0d05df00b3efd0f71b7bba04aff591510e44724e468f76e65d44c", func := "tocsin/tocsinlaw08.ConfForwards", spec := "confForwards", unfollowed := true, recurses := true, apart := false }
def ConfForwardsSaid : Prop := confForwardsRow.holds Try.pinned (OpenSpec.ofChange confForwardsSpec)

/-- ITS FALSE NEIGHBOUR: 'it returns false'. Refute it at one input. -/
def confForwardsWrong : ChangeSpec := { name := "confForwards", fn := fun _ => fun
  | [d] => { results := [.lit (.bool false)], args := [d] }
  | _ => none }
def ConfForwardsWrongFalsely : Prop := confForwardsRow.holds Try.pinned (OpenSpec.ofChange confForwardsWrong)

/-- 'tocsinlaw08.ConfFamily': WHATEVER THE INPUT: true; the input reads as it did. -/
def confFamilySpec : ChangeSpec := { name := "confFamily", fn := fun _ => fun
  | [d1, d2] => { results := [.lit (.bool true)], args := [d1, d2] }
  | _ => none }
def confFamilyRow : OpenClaim := { program := "ytogcdgdnjinjkaa", sum := "fcc546f4b7e0d05df00b3efd0f71b7bba04aff591510e44724e468f76e65d44c", func := "tocsin/tocsinlaw08.ConfFamily", spec := "confFamily", unfollowed := true, recurses := true, apart := false }
def ConfFamilySaid : Prop := confFamilyRow.holds Try.pinned (OpenSpec.ofChange confFamilySpec)

/-- ITS FALSE NEIGHBOUR: 'it returns false'. Refute it at one input. -/
def confFamilyWrong : ChangeSpec := { name := "confFamily", fn := fun _ => fun
  | [d1, d2] => { results := [.lit (.bool false)], args := [d1, d2] }
  | _ => none }
def ConfFamilyWrongFalsely : Prop := confFamilyRow.holds Try.pinned (OpenSpec.ofChange confFamilyWrong)

/-- 'tocsinlaw08.ConfCopies': WHATEVER THE INPUT: true; the input reads as it did. -/
def confCopiesSpec : ChangeSpec := { name := "confCopies", fn := fun _ => fun
  | [d1, d2] => { results := [.lit (.bool true)], args := [d1, d2] }
  | _ => none }
def confCopiesRow : OpenClaim := { program := "ytogcdgdnjinjkaa", sum := "fcc546f4b7e0d05df00b3efd0f71b7bba04aff591510e44724e468f76e65d44c", func := "tocsin/tocsinlaw08.ConfCopies", spec := "confCopies", unfollowed := true, recurses := true, apart := false }
def ConfCopiesSaid : Prop := confCopiesRow.holds Try.pinned (OpenSpec.ofChange confCopiesSpec)

/-- ITS FALSE NEIGHBOUR: 'it returns false'. Refute it at one input. -/
def confCopiesWrong : ChangeSpec := { name := "confCopies", fn := fun _ => fun
  | [d1, d2] => { results := [.lit (.bool false)], args := [d1, d2] }
  | _ => none }
def ConfCopiesWrongFalsely : Prop := confCopiesRow.holds Try.pinned (OpenSpec.ofChange confCopiesWrong)

/-- 'tocsinlaw08.ConfDelays': WHATEVER THE INPUT: true; the input reads as it did. -/
def confDelaysSpec : ChangeSpec := { name := "confDelays", fn := fun _ => fun
  | [d1, d2, d3] => { results := [.lit (.bool true)], args := [d1, d2, d3] }
  | _ => none }
def confDelaysRow : OpenClaim := { program := "ytogcdgdnjinjkaa", sum := "fcc546f4b7e0d05df00b3efd0f71b7bba04aff591510e44724e468f76e65d44c", func := "tocsin/tocsinlaw08.ConfDelays", spec := "confDelays", unfollowed := true, recurses := true, apart := false }
def ConfDelaysSaid : Prop := confDelaysRow.holds Try.pinned (OpenSpec.ofChange confDelaysSpec)

/-- ITS FALSE NEIGHBOUR: 'it returns false'. Refute it at one input. -/
def confDelaysWrong : ChangeSpec := { name := "confDelays", fn := fun _ => fun
  | [d1, d2, d3] => { results := [.lit (.bool false)], args := [d1, d2, d3] }
  | _ => none }
def ConfDelaysWrongFalsely : Prop := confDelaysRow.holds Try.pinned (OpenSpec.ofChange confDelaysWrong)

/-- 'tocsinlaw08.ConfTwins': WHATEVER THE INPUT: true; the input reads as it did. -/
def confTwinsSpec : ChangeSpec := { name := "confTwins", fn := fun _ => fun
  | [d1, d2] => { results := [.lit (.bool true)], args := [d1, d2] }
  | _ => none }
def confTwinsRow : OpenClaim := { program := "ytogcdgdnjinjkaa", sum := "fcc546f4b7e0d05df00b3efd0f71b7bba04aff591510e44724e468f76e65d44c", func := "tocsin/tocsinlaw08.ConfTwins", spec := "confTwins", unfollowed := true, recurses := true, apart := false }
def ConfTwinsSaid : Prop := confTwinsRow.holds Try.pinned (OpenSpec.ofChange confTwinsSpec)

/-- ITS FALSE NEIGHBOUR: 'it returns false'. Refute it at one input. -/
def confTwinsWrong : ChangeSpec := { name := "confTwins", fn := fun _ => fun
  | [d1, d2] => { results := [.lit (.bool false)], args := [d1, d2] }
  | _ => none }
def ConfTwinsWrongFalsely : Prop := confTwinsRow.holds Try.pinned (OpenSpec.ofChange confTwinsWrong)

/- THE SECOND FORM. 'bulk': how many values and letters a reading holds, each counted each time it is reached (what is shared counts as often as it is met; a slice's spare places count too). A statement '..UptoSaid' is the law's where the arguments, and the package variables that the reading takes, are together of bulk at most 1048576: NARROWER than '..Said'. Prove '..Said' where nothing that the law and all that it calls make is longer than what came in: it says more and counts as full. Else prove '..UptoSaid'. A law counts once. -/
mutual
def uptoBulk {H : Type} : DataW H → Nat
  | .lit (.string bytes) => bytes.length + 1
  | .lit _ => 1
  | .nil => 1
  | .ptr d => uptoBulk d + 1
  | .slice elems spare => uptoBulkAll elems + uptoBulkAll spare + 1
  | .agg parts => uptoBulkAll parts + 1
  | .iface _ d => uptoBulk d + 1
  | .map entries => uptoBulkEntries entries + 1
  | .held _ => 1
def uptoBulkAll {H : Type} : List (DataW H) → Nat
  | [] => 0
  | d :: r => uptoBulk d + uptoBulkAll r
def uptoBulkEntries {H : Type} : List (Lit × DataW H) → Nat
  | [] => 0
  | x :: r => uptoBulkEntry x + uptoBulkEntries r
def uptoBulkEntry {H : Type} : Lit × DataW H → Nat
  | (.string bytes, d) => bytes.length + uptoBulk d + 1
  | (_, d) => uptoBulk d + 1
 end
def uptoSmall : (H : Type) → List (DataW H) → Bool := fun _ ds => decide (uptoBulkAll ds ≤ 1048576)
def OpenSpec.upto (s : _root_.Go.ChangeSpec) : _root_.Go.OpenSpec := { _root_.Go.OpenSpec.ofChange s with cond := some uptoSmall }

/-- 'tocsinlaw08.ConfChecks', WHERE WHAT IT READS IS OF BULK AT MOST 1048576: true; the input reads as it did. -/
def confChecksUptoRow : OpenClaim := { program := "ytogcdgdnjinjkaa", sum := "fcc546f4b7e0d05df00b3efd0f71b7bba04aff591510e44724e468f76e65d44c", func := "tocsin/tocsinlaw08.ConfChecks", spec := "confChecks", unfollowed := true, recurses := true, apart := false, narrowed := true }
def ConfChecksUptoSaid : Prop := confChecksUptoRow.holds Try.pinned (OpenSpec.upto confChecksSpec)

/-- 'tocsinlaw08.ConfTimes', WHERE WHAT IT READS IS OF BULK AT MOST 1048576: true; the input reads as it did. -/
def confTimesUptoRow : OpenClaim := { program := "ytogcdgdnjinjkaa", sum := "fcc546f4b7e0d05df00b3efd0f71b7bba04aff591510e44724e468f76e65d44c", func := "tocsin/tocsinlaw08.ConfTimes", spec := "confTimes", unfollowed := true, recurses := true, apart := false, narrowed := true }
def ConfTimesUptoSaid : Prop := confTimesUptoRow.holds Try.pinned (OpenSpec.upto confTimesSpec)

/-- 'tocsinlaw08.ConfForwards', WHERE WHAT IT READS IS OF BULK AT MOST 1048576: true; the input reads as it did. -/
def confForwardsUptoRow : OpenClaim := { program := "ytogcdgdnjinjkaa", sum := "fcc546f4b7e0d05df00b3efd0f71b7bba04aff591510e44724e468f76e65d44c", func := "tocsin/tocsinlaw08.ConfForwards", spec := "confForwards", unfollowed := true, recurses := true, apart := false, narrowed := true }
def ConfForwardsUptoSaid : Prop := confForwardsUptoRow.holds Try.pinned (OpenSpec.upto confForwardsSpec)

/-- 'tocsinlaw08.ConfFamily', WHERE WHAT IT READS IS OF BULK AT MOST 1048576: true; the input reads as it did. -/
def confFamilyUptoRow : OpenClaim := { program := "ytogcdgdnjinjkaa", sum := "fcc546f4b7e0d05df00b3efd0f71b7bba04aff591510e44724e468f76e65d44c", func := "tocsin/tocsinlaw08.ConfFamily", spec := "confFamily", unfollowed := true, recurses := true, apart := false, narrowed := true }
def ConfFamilyUptoSaid : Prop := confFamilyUptoRow.holds Try.pinned (OpenSpec.upto confFamilySpec)

/-- 'tocsinlaw08.ConfCopies', WHERE WHAT IT READS IS OF BULK AT MOST 1048576: true; the input reads as it did. -/
def confCopiesUptoRow : OpenClaim := { program := "ytogcdgdnjinjkaa", sum := "fcc546f4b7e0d05df00b3efd0f71b7bba04aff591510e44724e468f76e65d44c", func := "tocsin/tocsinlaw08.ConfCopies", spec := "confCopies", unfollowed := true, recurses := true, apart := false, narrowed := true }
def ConfCopiesUptoSaid : Prop := confCopiesUptoRow.holds Try.pinned (OpenSpec.upto confCopiesSpec)

/-- 'tocsinlaw08.ConfDelays', WHERE WHAT IT READS IS OF BULK AT MOST 1048576: true; the input reads as it did. -/
def confDelaysUptoRow : OpenClaim := { program := "ytogcdgdnjinjkaa", sum := "fcc546f4b7e0d05df00b3efd0f71b7bba04aff591510e44724e468f76e65d44c", func := "tocsin/tocsinlaw08.ConfDelays", spec := "confDelays", unfollowed := true, recurses := true, apart := false, narrowed := true }
def ConfDelaysUptoSaid : Prop := confDelaysUptoRow.holds Try.pinned (OpenSpec.upto confDelaysSpec)

/-- 'tocsinlaw08.ConfTwins', WHERE WHAT IT READS IS OF BULK AT MOST 1048576: true; the input reads as it did. -/
def confTwinsUptoRow : OpenClaim := { program := "ytogcdgdnjinjkaa", sum := "fcc546f4b7e0d05df00b3efd0f71b7bba04aff591510e44724e468f76e65d44c", func := "tocsin/tocsinlaw08.ConfTwins", spec := "confTwins", unfollowed := true, recurses := true, apart := false, narrowed := true }
def ConfTwinsUptoSaid : Prop := confTwinsUptoRow.holds Try.pinned (OpenSpec.upto confTwinsSpec)

end Rows
end Go.Proofs.Ytogcdgdnjinjkaa
