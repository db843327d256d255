/- Written by a program of this session out of the translation: for each Go function a Lean function, and the proof that the call computes it; the conditions stand in each theorem. -/
import Derived.Test.YtogiemlgjnhidaaProg
import Derived.Below
import Derived.Deep.Draws
import Derived.Deep.AppendLies
import Derived.Maps.AppendAt
import Derived.OwnWalk
import Derived.Laws.BytesArg
import Derived.Laws.MakeOwn
import Derived.Laws.OwnMore
import Derived.Deep.OwnRows
import Derived.Tactics
import Derived.Lib.ConvBytes
import Derived.Laws.Slices
import Derived.WalkKit
import Derived.KernelRfl
import Derived.RowKit3
import Derived.Deep.LoopGhost
import Derived.Deep.QuietTactic
import Derived.BigQuiet
import Derived.WideLaws
import Derived.Deep.DeepCutAuto
import Derived.Deep.CutBlock
import Derived.Deep.RegionHeld3
import Derived.Laws.Rows
import Derived.Lib.AppendStr
import Derived.ArgAppend
import Derived.Laws.IdiomCopy
import Derived.OrdersHeld
import Derived.Laws.BitsLemmas
import Derived.RowKit
import Derived.Test.YtogiemlgjnhidaaWWords
import Derived.Test.YtogiemlgjnhidaaWLast
import Derived.Test.YtogiemlgjnhidaaWTab
import Derived.Test.YtogiemlgjnhidaaWFour
import Derived.Test.YtogiemlgjnhidaaWQPut
import Derived.Test.YtogiemlgjnhidaaWApart
import Derived.Test.YtogiemlgjnhidaaWArr
import Derived.Test.YtogiemlgjnhidaaWZeros
import Derived.Test.YtogiemlgjnhidaaWFoot
import Derived.Test.YtogiemlgjnhidaaWKept
import Derived.Test.YtogiemlgjnhidaaWShare
import Derived.Test.YtogiemlgjnhidaaWN
import Derived.Test.YtogiemlgjnhidaaWFootNe
import Derived.Test.YtogiemlgjnhidaaWAt
import Derived.Test.YtogiemlgjnhidaaWEqStruct
import Derived.Test.YtogiemlgjnhidaaWRepsOne
import Derived.Test.YtogiemlgjnhidaaWInv
import Derived.Test.YtogiemlgjnhidaaWInvWords
import Derived.Test.YtogiemlgjnhidaaWGuard
import Derived.Test.YtogiemlgjnhidaaWNEv
import Derived.Test.YtogiemlgjnhidaaWMore
namespace Go.Proofs.Ytogiemlgjnhidaa.PN
open Go.RowKit Go.Proofs.YtogiemlgjnhidaaW.PrintWords Go.Proofs.YtogiemlgjnhidaaW.PrintLast Go.Proofs.YtogiemlgjnhidaaW.PrintMore
attribute [local go_sem] max2_int min2_int max_two min_two max_three min_three max_four min_four   -- for this text's walks alone
set_option linter.unusedVariables false
set_option linter.unusedSimpArgs false



def errW : Option Int → Value
  | none => .nilIface
  | some c => .iface 0 (.int .i64 c)
theorem errW_none : errW none = .nilIface := rfl
theorem errW_some (c : Int) : errW (some c) = .iface 0 (.int .i64 c) := rfl

-- the values' own types

end Go.Proofs.Ytogiemlgjnhidaa.PN
