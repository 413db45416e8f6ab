/- Facts that the functions' contracts share. (The kit's print tool wrote these lines; they are laid out in texts of this claim's own.) -/
import Derived.Test.YtbmnkfpodkdpeaaProg
import Derived.Below
import Derived.Deep.Draws
import Derived.Deep.AppendLies
import Derived.Maps.AppendAt
import Derived.OwnWalk
import Derived.Laws.BytesArg
import Derived.Laws.MakeOwn
import Derived.Laws.OwnMore
import Derived.Deep.OwnRows
import Derived.Tactics
import Derived.Lib.ConvBytes
import Derived.Laws.Slices
import Derived.WalkKit
import Derived.KernelRfl
import Derived.RowKit3
import Derived.Deep.LoopGhost
import Derived.Deep.QuietTactic
import Derived.BigQuiet
import Derived.WideLaws
import Derived.Deep.DeepCutAuto
import Derived.Deep.CutBlock
import Derived.Deep.RegionHeld3
import Derived.Laws.Rows
import Derived.Lib.AppendStr
import Derived.ArgAppend
import Derived.Laws.IdiomCopy
import Derived.OrdersHeld
import Derived.Laws.BitsLemmas
import Derived.RowKit
import Derived.Test.YtbmnkfpodkdpeaaWWords
import Derived.Test.YtbmnkfpodkdpeaaWLast
import Derived.Test.YtbmnkfpodkdpeaaWTab
import Derived.Test.YtbmnkfpodkdpeaaWFour
import Derived.Test.YtbmnkfpodkdpeaaWQPut
import Derived.Test.YtbmnkfpodkdpeaaWApart
import Derived.Test.YtbmnkfpodkdpeaaWArr
import Derived.Test.YtbmnkfpodkdpeaaWZeros
import Derived.Test.YtbmnkfpodkdpeaaWFoot
import Derived.Test.YtbmnkfpodkdpeaaWKept
import Derived.Test.YtbmnkfpodkdpeaaWShare
import Derived.Test.YtbmnkfpodkdpeaaWN
import Derived.Test.YtbmnkfpodkdpeaaWFootNe
import Derived.Test.YtbmnkfpodkdpeaaWAt
import Derived.Test.YtbmnkfpodkdpeaaWEqStruct
import Derived.Test.YtbmnkfpodkdpeaaWRepsOne
import Derived.Test.YtbmnkfpodkdpeaaWInv
import Derived.Test.YtbmnkfpodkdpeaaWInvWords
import Derived.Test.YtbmnkfpodkdpeaaWGuard
import Derived.Test.YtbmnkfpodkdpeaaWNEv
import Derived.Test.YtbmnkfpodkdpeaaWMore
namespace Go.Proofs.Ytbmnkfpodkdpeaa.Q
open Go.RowKit Go.Proofs.YtbmnkfpodkdpeaaW.PrintWords Go.Proofs.YtbmnkfpodkdpeaaW.PrintLast Go.Proofs.YtbmnkfpodkdpeaaW.PrintMore
attribute [local go_sem] max2_int min2_int max_two min_two max_three min_three max_four min_four   -- for this text's walks alone
set_option linter.unusedVariables false
set_option linter.unusedSimpArgs false

def errW : Option Int → Value
  | none => .nilIface
  | some c => .iface 0 (.int .i64 c)
theorem errW_none : errW none = .nilIface := rfl
theorem errW_some (c : Int) : errW (some c) = .iface 0 (.int .i64 c) := rfl

-- the values' own types
theorem eqA29 (d : Nat) (w : World) (x0 y0 : Int) (x1 y1 : Int) (x2 y2 : Int) (x3 y3 : Int) :
    (Op.equalIn (d + 2) 29 (.agg #[.int .i64 x0, .int .i64 x1, .int .i64 x2, .int .i64 x3]) (.agg #[.int .i64 y0, .int .i64 y1, .int .i64 y2, .int .i64 y3])).run Try.prog w = .ok (x0 == y0 && (x1 == y1 && (x2 == y2 && (x3 == y3)))) w := by
  refine eqA_of Try.underlying29 (by kernel_rfl) ?_
  refine eqf_cons (by rfl) (by go_simp; rfl) (by go_simp; rfl) (by go_simp) ?_
  refine eqf_cons (by rfl) (by go_simp; rfl) (by go_simp; rfl) (by go_simp) ?_
  refine eqf_cons (by rfl) (by go_simp; rfl) (by go_simp; rfl) (by go_simp) ?_
  exact eqf_last (by rfl) (by go_simp; rfl) (by go_simp; rfl) (by go_simp)

end Go.Proofs.Ytbmnkfpodkdpeaa.Q
