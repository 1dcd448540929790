/-
  No cell of these rows narrows 'for every input' (looked for: loops, veiled, ifaces, maps, wideKeys, modest, calm, conditions, laid).
  DERIVED. THE GIVEN ROWS OF THIS SEAT. 6 by the template 'for every input the law returns true; each argument reads behind the call as it read before'; 0 by the template 'total and deterministic' (their statements: YtpddklcfkjebgaaTotals.lean).
  GIVEN WITH THE SEED: the statements are not yours to turn. If you find one false, say at which input.
  Laid BY PROGRAM, IN A SANDBOX (cutbox-rows.mjs): the forced cells as the released guide's own fill.sh prints them over the translation c82f245a4ec7a270… (all of the seat's roots in one cut). By AI agents, Wed Nov 11 2026. No macro, syntax, notation, axiom, sorry.
-/
import Derived.Test.YtpddklcfkjebgaaChecked
import GoSem.Claim
import GoSem.ClaimJoined
import GoSem.ClaimMapViews
import Derived.JoinedTies
import Derived.KernelRfl
namespace Go.Proofs.Ytpddklcfkjebgaa
/- THE CELL 'sum', in the pinned program and in every row, IS THE sha256 OF THE DUMP (.gsa) THAT YtpddklcfkjebgaaProg.lean LOADS. Nothing in Lean hashes anything: it is a label: what it is worth is what the hold of that sum in a sandbox is worth. -/
noncomputable def Try.pinned : Pinned := { name := "ytpddklcfkjebgaa", sum := "c82f245a4ec7a270de4baab1e0963129fbfb9a4afcefac0a1ff45e504535b5a6", checked := Try.checked }
namespace Rows
def none {H : Type} : Left H := { results := [], args := [] }

/-- 'tocsinlaw14.BucketPlays': WHATEVER THE INPUT: true; the input reads as it did. -/
def bucketPlaysSpec : ChangeSpec := { name := "bucketPlays", fn := fun _ => fun
  | [d1, d2, d3] => { results := [.lit (.bool true)], args := [d1, d2, d3] }
  | _ => none }
def bucketPlaysRow : OpenClaim := { program := "ytpddklcfkjebgaa", sum := "c82f245a4ec7a270de4baab1e0963129fbfb9a4afcefac0a1ff45e504535b5a6", func := "tocsin/tocsinlaw14.BucketPlays", spec := "bucketPlays", apart := false }
def BucketPlaysSaid : Prop := bucketPlaysRow.holds Try.pinned (OpenSpec.ofChange bucketPlaysSpec)

/-- ITS FALSE NEIGHBOUR: 'it returns false'. Refute it at one input. -/
def bucketPlaysWrong : ChangeSpec := { name := "bucketPlays", fn := fun _ => fun
  | [d1, d2, d3] => { results := [.lit (.bool false)], args := [d1, d2, d3] }
  | _ => none }
def BucketPlaysWrongFalsely : Prop := bucketPlaysRow.holds Try.pinned (OpenSpec.ofChange bucketPlaysWrong)

/-- 'tocsinlaw14.BucketBudget': WHATEVER THE INPUT: true; the input reads as it did. -/
def bucketBudgetSpec : ChangeSpec := { name := "bucketBudget", fn := fun _ => fun
  | [d1, d2, d3] => { results := [.lit (.bool true)], args := [d1, d2, d3] }
  | _ => none }
def bucketBudgetRow : OpenClaim := { program := "ytpddklcfkjebgaa", sum := "c82f245a4ec7a270de4baab1e0963129fbfb9a4afcefac0a1ff45e504535b5a6", func := "tocsin/tocsinlaw14.BucketBudget", spec := "bucketBudget", apart := false }
def BucketBudgetSaid : Prop := bucketBudgetRow.holds Try.pinned (OpenSpec.ofChange bucketBudgetSpec)

/-- ITS FALSE NEIGHBOUR: 'it returns false'. Refute it at one input. -/
def bucketBudgetWrong : ChangeSpec := { name := "bucketBudget", fn := fun _ => fun
  | [d1, d2, d3] => { results := [.lit (.bool false)], args := [d1, d2, d3] }
  | _ => none }
def BucketBudgetWrongFalsely : Prop := bucketBudgetRow.holds Try.pinned (OpenSpec.ofChange bucketBudgetWrong)

/-- 'tocsinlaw14.BucketFair': WHATEVER THE INPUT: true; the input reads as it did. -/
def bucketFairSpec : ChangeSpec := { name := "bucketFair", fn := fun _ => fun
  | [d1, d2, d3] => { results := [.lit (.bool true)], args := [d1, d2, d3] }
  | _ => none }
def bucketFairRow : OpenClaim := { program := "ytpddklcfkjebgaa", sum := "c82f245a4ec7a270de4baab1e0963129fbfb9a4afcefac0a1ff45e504535b5a6", func := "tocsin/tocsinlaw14.BucketFair", spec := "bucketFair", apart := false }
def BucketFairSaid : Prop := bucketFairRow.holds Try.pinned (OpenSpec.ofChange bucketFairSpec)

/-- ITS FALSE NEIGHBOUR: 'it returns false'. Refute it at one input. -/
def bucketFairWrong : ChangeSpec := { name := "bucketFair", fn := fun _ => fun
  | [d1, d2, d3] => { results := [.lit (.bool false)], args := [d1, d2, d3] }
  | _ => none }
def BucketFairWrongFalsely : Prop := bucketFairRow.holds Try.pinned (OpenSpec.ofChange bucketFairWrong)

/-- 'tocsinlaw14.BucketNexts': WHATEVER THE INPUT: true; the input reads as it did. -/
def bucketNextsSpec : ChangeSpec := { name := "bucketNexts", fn := fun _ => fun
  | [d1, d2, d3] => { results := [.lit (.bool true)], args := [d1, d2, d3] }
  | _ => none }
def bucketNextsRow : OpenClaim := { program := "ytpddklcfkjebgaa", sum := "c82f245a4ec7a270de4baab1e0963129fbfb9a4afcefac0a1ff45e504535b5a6", func := "tocsin/tocsinlaw14.BucketNexts", spec := "bucketNexts", apart := false }
def BucketNextsSaid : Prop := bucketNextsRow.holds Try.pinned (OpenSpec.ofChange bucketNextsSpec)

/-- ITS FALSE NEIGHBOUR: 'it returns false'. Refute it at one input. -/
def bucketNextsWrong : ChangeSpec := { name := "bucketNexts", fn := fun _ => fun
  | [d1, d2, d3] => { results := [.lit (.bool false)], args := [d1, d2, d3] }
  | _ => none }
def BucketNextsWrongFalsely : Prop := bucketNextsRow.holds Try.pinned (OpenSpec.ofChange bucketNextsWrong)

/-- 'tocsinlaw14.BucketBudgets': WHATEVER THE INPUT: true; the input reads as it did. -/
def bucketBudgetsSpec : ChangeSpec := { name := "bucketBudgets", fn := fun _ => fun
  | [d1, d2, d3] => { results := [.lit (.bool true)], args := [d1, d2, d3] }
  | _ => none }
def bucketBudgetsRow : OpenClaim := { program := "ytpddklcfkjebgaa", sum := "c82f245a4ec7a270de4baab1e0963129fbfb9a4afcefac0a1ff45e504535b5a6", func := "tocsin/tocsinlaw14.BucketBudgets", spec := "bucketBudgets", apart := false }
def BucketBudgetsSaid : Prop := bucketBudgetsRow.holds Try.pinned (OpenSpec.ofChange bucketBudgetsSpec)

/-- ITS FALSE NEIGHBOUR: 'it returns false'. Refute it at one input. -/
def bucketBudgetsWrong : ChangeSpec := { name := "bucketBudgets", fn := fun _ => fun
  | [d1, d2, d3] => { results := [.lit (.bool false)], args := [d1, d2, d3] }
  | _ => none }
def BucketBudgetsWrongFalsely : Prop := bucketBudgetsRow.holds Try.pinned (OpenSpec.ofChange bucketBudgetsWrong)

/-- 'tocsinlaw14.BucketBurst': WHATEVER THE INPUT: true; the input reads as it did. -/
def bucketBurstSpec : ChangeSpec := { name := "bucketBurst", fn := fun _ => fun
  | [d1, d2, d3] => { results := [.lit (.bool true)], args := [d1, d2, d3] }
  | _ => none }
def bucketBurstRow : OpenClaim := { program := "ytpddklcfkjebgaa", sum := "c82f245a4ec7a270de4baab1e0963129fbfb9a4afcefac0a1ff45e504535b5a6", func := "tocsin/tocsinlaw14.BucketBurst", spec := "bucketBurst", apart := false }
def BucketBurstSaid : Prop := bucketBurstRow.holds Try.pinned (OpenSpec.ofChange bucketBurstSpec)

/-- ITS FALSE NEIGHBOUR: 'it returns false'. Refute it at one input. -/
def bucketBurstWrong : ChangeSpec := { name := "bucketBurst", fn := fun _ => fun
  | [d1, d2, d3] => { results := [.lit (.bool false)], args := [d1, d2, d3] }
  | _ => none }
def BucketBurstWrongFalsely : Prop := bucketBurstRow.holds Try.pinned (OpenSpec.ofChange bucketBurstWrong)

/- THE SECOND FORM. 'bulk': how many values and letters a reading holds, each counted each time it is reached (what is shared counts as often as it is met; a slice's spare places count too). A statement '..UptoSaid' is the law's where the arguments, and the package variables that the reading takes, are together of bulk at most 1048576: NARROWER than '..Said'. Prove '..Said' where nothing that the law and all that it calls make is longer than what came in: it says more and counts as full. Else prove '..UptoSaid'. A law counts once. -/
mutual
def uptoBulk {H : Type} : DataW H → Nat
  | .lit (.string bytes) => bytes.length + 1
  | .lit _ => 1
  | .nil => 1
  | .ptr d => uptoBulk d + 1
  | .slice elems spare => uptoBulkAll elems + uptoBulkAll spare + 1
  | .agg parts => uptoBulkAll parts + 1
  | .iface _ d => uptoBulk d + 1
  | .map entries => uptoBulkEntries entries + 1
  | .held _ => 1
def uptoBulkAll {H : Type} : List (DataW H) → Nat
  | [] => 0
  | d :: r => uptoBulk d + uptoBulkAll r
def uptoBulkEntries {H : Type} : List (Lit × DataW H) → Nat
  | [] => 0
  | x :: r => uptoBulkEntry x + uptoBulkEntries r
def uptoBulkEntry {H : Type} : Lit × DataW H → Nat
  | (.string bytes, d) => bytes.length + uptoBulk d + 1
  | (_, d) => uptoBulk d + 1
 end
def uptoSmall : (H : Type) → List (DataW H) → Bool := fun _ ds => decide (uptoBulkAll ds ≤ 1048576)
def OpenSpec.upto (s : _root_.Go.ChangeSpec) : _root_.Go.OpenSpec := { _root_.Go.OpenSpec.ofChange s with cond := some uptoSmall }

/-- 'tocsinlaw14.BucketPlays', WHERE WHAT IT READS IS OF BULK AT MOST 1048576: true; the input reads as it did. -/
def bucketPlaysUptoRow : OpenClaim := { program := "ytpddklcfkjebgaa", sum := "c82f245a4ec7a270de4baab1e0963129fbfb9a4afcefac0a1ff45e504535b5a6", func := "tocsin/tocsinlaw14.BucketPlays", spec := "bucketPlays", apart := false, narrowed := true }
def BucketPlaysUptoSaid : Prop := bucketPlaysUptoRow.holds Try.pinned (OpenSpec.upto bucketPlaysSpec)

/-- 'tocsinlaw14.BucketBudget', WHERE WHAT IT READS IS OF BULK AT MOST 1048576: true; the input reads as it did. -/
def bucketBudgetUptoRow : OpenClaim := { program := "ytpddklcfkjebgaa", sum := "c82f245a4ec7a270de4baab1e0963129fbfb9a4afcefac0a1ff45e504535b5a6", func := "tocsin/tocsinlaw14.BucketBudget", spec := "bucketBudget", apart := false, narrowed := true }
def BucketBudgetUptoSaid : Prop := bucketBudgetUptoRow.holds Try.pinned (OpenSpec.upto bucketBudgetSpec)

/-- 'tocsinlaw14.BucketFair', WHERE WHAT IT READS IS OF BULK AT MOST 1048576: true; the input reads as it did. -/
def bucketFairUptoRow : OpenClaim := { program := "ytpddklcfkjebgaa", sum := "c82f245a4ec7a270de4baab1e0963129fbfb9a4afcefac0a1ff45e504535b5a6", func := "tocsin/tocsinlaw14.BucketFair", spec := "bucketFair", apart := false, narrowed := true }
def BucketFairUptoSaid : Prop := bucketFairUptoRow.holds Try.pinned (OpenSpec.upto bucketFairSpec)

/-- 'tocsinlaw14.BucketNexts', WHERE WHAT IT READS IS OF BULK AT MOST 1048576: true; the input reads as it did. -/
def bucketNextsUptoRow : OpenClaim := { program := "ytpddklcfkjebgaa", sum := "c82f245a4ec7a270de4baab1e0963129fbfb9a4afcefac0a1ff45e504535b5a6", func := "tocsin/tocsinlaw14.BucketNexts", spec := "bucketNexts", apart := false, narrowed := true }
def BucketNextsUptoSaid : Prop := bucketNextsUptoRow.holds Try.pinned (OpenSpec.upto bucketNextsSpec)

/-- 'tocsinlaw14.BucketBudgets', WHERE WHAT IT READS IS OF BULK AT MOST 1048576: true; the input reads as it did. -/
def bucketBudgetsUptoRow : OpenClaim := { program := "ytpddklcfkjebgaa", sum := "c82f245a4ec7a270de4baab1e0963129fbfb9a4afcefac0a1ff45e504535b5a6", func := "tocsin/tocsinlaw14.BucketBudgets", spec := "bucketBudgets", apart := false, narrowed := true }
def BucketBudgetsUptoSaid : Prop := bucketBudgetsUptoRow.holds Try.pinned (OpenSpec.upto bucketBudgetsSpec)

/-- 'tocsinlaw14.BucketBurst', WHERE WHAT IT READS IS OF BULK AT MOST 1048576: true; the input reads as it did. -/
def bucketBurstUptoRow : OpenClaim := { program := "ytpddklcfkjebgaa", sum := "c82f245a4ec7a270de4baab1e0963129fbfb9a4afcefac0a1ff45e504535b5a6", func := "tocsin/tocsinlaw14.BucketBurst", spec := "bucketBurst", apart := false, narrowed := true }
def BucketBurstUptoSaid : Prop := bucketBurstUptoRow.holds Try.pinned (OpenSpec.upto bucketBurstSpec)

end Rows
end Go.Proofs.Ytpddklcfkjebgaa
