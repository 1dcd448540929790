-- Written by a program for this claim.
import Derived.Test.YtpddklcfkjebgaaProg
import Derived.Below
import Derived.Deep.Draws
import Derived.Deep.AppendLies
import Derived.Maps.AppendAt
import Derived.OwnWalk
import Derived.Laws.BytesArg
import Derived.Laws.MakeOwn
import Derived.Laws.OwnMore
import Derived.Deep.OwnRows
import Derived.Tactics
import Derived.Lib.ConvBytes
import Derived.Laws.Slices
import Derived.WalkKit
import Derived.KernelRfl
import Derived.RowKit3
import Derived.Deep.LoopGhost
import Derived.Deep.QuietTactic
import Derived.BigQuiet
import Derived.WideLaws
import Derived.Deep.DeepCutAuto
import Derived.Deep.CutBlock
import Derived.Deep.RegionHeld3
import Derived.Laws.Rows
import Derived.Lib.AppendStr
import Derived.ArgAppend
import Derived.Laws.IdiomCopy
import Derived.OrdersHeld
import Derived.Laws.BitsLemmas
import Derived.RowKit
import Derived.Test.YtpddklcfkjebgaaWWords
import Derived.Test.YtpddklcfkjebgaaWLast
import Derived.Test.YtpddklcfkjebgaaWTab
import Derived.Test.YtpddklcfkjebgaaWFour
import Derived.Test.YtpddklcfkjebgaaWQPut
import Derived.Test.YtpddklcfkjebgaaWApart
import Derived.Test.YtpddklcfkjebgaaWArr
import Derived.Test.YtpddklcfkjebgaaWZeros
import Derived.Test.YtpddklcfkjebgaaWFoot
import Derived.Test.YtpddklcfkjebgaaWKept
import Derived.Test.YtpddklcfkjebgaaWShare
import Derived.Test.YtpddklcfkjebgaaWN
import Derived.Test.YtpddklcfkjebgaaWFootNe
import Derived.Test.YtpddklcfkjebgaaWAt
import Derived.Test.YtpddklcfkjebgaaWEqStruct
import Derived.Test.YtpddklcfkjebgaaWRepsOne
import Derived.Test.YtpddklcfkjebgaaWInv
import Derived.Test.YtpddklcfkjebgaaWInvWords
import Derived.Test.YtpddklcfkjebgaaWGuard
import Derived.Test.YtpddklcfkjebgaaWNEv
import Derived.Test.YtpddklcfkjebgaaWMore
namespace Go.Proofs.Ytpddklcfkjebgaa.PB
open Go.RowKit Go.Proofs.YtpddklcfkjebgaaW.PrintWords Go.Proofs.YtpddklcfkjebgaaW.PrintLast Go.Proofs.YtpddklcfkjebgaaW.PrintMore
attribute [local go_sem] max2_int min2_int max_two min_two max_three min_three max_four min_four   -- for this text's walks alone
set_option linter.unusedVariables false
set_option linter.unusedSimpArgs false



def errW : Option Int → Value
  | none => .nilIface
  | some c => .iface 0 (.int .i64 c)
theorem errW_none : errW none = .nilIface := rfl
theorem errW_some (c : Int) : errW (some c) = .iface 0 (.int .i64 c) := rfl

theorem info2 : (Try.prog.info? 2).map (fun i => (i.zero, i.size, i.bytes)) = some (some (.int .i64 0), 1, 8) := by kernel_rfl
-- the values' own types

end Go.Proofs.Ytpddklcfkjebgaa.PB
