/- Facts that the functions' contracts share. (The kit's print tool wrote these lines; they are laid out in texts of this claim's own.) -/
import Derived.Test.YtlgikpfjonnhmaaProg
import Derived.Below
import Derived.Deep.Draws
import Derived.Deep.AppendLies
import Derived.Maps.AppendAt
import Derived.OwnWalk
import Derived.Laws.BytesArg
import Derived.Laws.MakeOwn
import Derived.Laws.OwnMore
import Derived.Deep.OwnRows
import Derived.Tactics
import Derived.Lib.ConvBytes
import Derived.Laws.Slices
import Derived.WalkKit
import Derived.KernelRfl
import Derived.RowKit3
import Derived.Deep.LoopGhost
import Derived.Deep.QuietTactic
import Derived.BigQuiet
import Derived.WideLaws
import Derived.Deep.DeepCutAuto
import Derived.Deep.CutBlock
import Derived.Deep.RegionHeld3
import Derived.Laws.Rows
import Derived.Lib.AppendStr
import Derived.ArgAppend
import Derived.Laws.IdiomCopy
import Derived.OrdersHeld
import Derived.Laws.BitsLemmas
import Derived.RowKit
import Derived.Test.YtlgikpfjonnhmaaWWords
import Derived.Test.YtlgikpfjonnhmaaWLast
import Derived.Test.YtlgikpfjonnhmaaWTab
import Derived.Test.YtlgikpfjonnhmaaWFour
import Derived.Test.YtlgikpfjonnhmaaWQPut
import Derived.Test.YtlgikpfjonnhmaaWApart
import Derived.Test.YtlgikpfjonnhmaaWArr
import Derived.Test.YtlgikpfjonnhmaaWZeros
import Derived.Test.YtlgikpfjonnhmaaWFoot
import Derived.Test.YtlgikpfjonnhmaaWKept
import Derived.Test.YtlgikpfjonnhmaaWShare
import Derived.Test.YtlgikpfjonnhmaaWN
import Derived.Test.YtlgikpfjonnhmaaWFootNe
import Derived.Test.YtlgikpfjonnhmaaWAt
import Derived.Test.YtlgikpfjonnhmaaWEqStruct
import Derived.Test.YtlgikpfjonnhmaaWRepsOne
import Derived.Test.YtlgikpfjonnhmaaWInv
import Derived.Test.YtlgikpfjonnhmaaWInvWords
import Derived.Test.YtlgikpfjonnhmaaWGuard
import Derived.Test.YtlgikpfjonnhmaaWNEv
import Derived.Test.YtlgikpfjonnhmaaWMore
namespace Go.Proofs.Ytlgikpfjonnhmaa.Q
open Go.RowKit Go.Proofs.YtlgikpfjonnhmaaW.PrintWords Go.Proofs.YtlgikpfjonnhmaaW.PrintLast Go.Proofs.YtlgikpfjonnhmaaW.PrintMore
attribute [local go_sem] max2_int min2_int max_two min_two max_three min_three max_four min_four   -- for this text's walks alone
set_option linter.unusedVariables false
set_option linter.unusedSimpArgs false

def errW : Option Int → Value
  | none => .nilIface
  | some c => .iface 0 (.int .i64 c)
theorem errW_none : errW none = .nilIface := rfl
theorem errW_some (c : Int) : errW (some c) = .iface 0 (.int .i64 c) := rfl
theorem info3 : (Try.prog.info? 3).map (fun i => (i.zero, i.size, i.bytes)) = some (some (.int .i64 0), 1, 8) := by kernel_rfl
-- the values' own types

end Go.Proofs.Ytlgikpfjonnhmaa.Q
