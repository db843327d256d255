/- Written by a program of this session out of the translation: for each Go function a Lean function, and the proof that the call computes it; the conditions stand in each theorem. -/
import Derived.Test.YtjheocofbfmopaaProg
import Derived.Below
import Derived.Deep.Draws
import Derived.Deep.AppendLies
import Derived.Maps.AppendAt
import Derived.OwnWalk
import Derived.Laws.BytesArg
import Derived.Laws.MakeOwn
import Derived.Laws.OwnMore
import Derived.Deep.OwnRows
import Derived.Tactics
import Derived.Lib.ConvBytes
import Derived.Laws.Slices
import Derived.WalkKit
import Derived.KernelRfl
import Derived.RowKit3
import Derived.Deep.LoopGhost
import Derived.Deep.QuietTactic
import Derived.BigQuiet
import Derived.WideLaws
import Derived.Deep.DeepCutAuto
import Derived.Deep.CutBlock
import Derived.Deep.RegionHeld3
import Derived.Laws.Rows
import Derived.Lib.AppendStr
import Derived.ArgAppend
import Derived.Laws.IdiomCopy
import Derived.OrdersHeld
import Derived.Laws.BitsLemmas
import Derived.RowKit
import Derived.Test.YtjheocofbfmopaaWWords
import Derived.Test.YtjheocofbfmopaaWLast
import Derived.Test.YtjheocofbfmopaaWTab
import Derived.Test.YtjheocofbfmopaaWFour
import Derived.Test.YtjheocofbfmopaaWQPut
import Derived.Test.YtjheocofbfmopaaWApart
import Derived.Test.YtjheocofbfmopaaWArr
import Derived.Test.YtjheocofbfmopaaWZeros
import Derived.Test.YtjheocofbfmopaaWFoot
import Derived.Test.YtjheocofbfmopaaWKept
import Derived.Test.YtjheocofbfmopaaWShare
import Derived.Test.YtjheocofbfmopaaWN
import Derived.Test.YtjheocofbfmopaaWFootNe
import Derived.Test.YtjheocofbfmopaaWAt
import Derived.Test.YtjheocofbfmopaaWEqStruct
import Derived.Test.YtjheocofbfmopaaWRepsOne
import Derived.Test.YtjheocofbfmopaaWInv
import Derived.Test.YtjheocofbfmopaaWInvWords
import Derived.Test.YtjheocofbfmopaaWGuard
import Derived.Test.YtjheocofbfmopaaWNEv
import Derived.Test.YtjheocofbfmopaaWMore
namespace Go.Proofs.Ytjheocofbfmopaa.PI
open Go.RowKit Go.Proofs.YtjheocofbfmopaaW.PrintWords Go.Proofs.YtjheocofbfmopaaW.PrintLast Go.Proofs.YtjheocofbfmopaaW.PrintMore
attribute [local go_sem] max2_int min2_int max_two min_two max_three min_three max_four min_four   -- for this text's walks alone
set_option linter.unusedVariables false
set_option linter.unusedSimpArgs false



def errW : Option Int → Value
  | none => .nilIface
  | some c => .iface 0 (.int .i64 c)
theorem errW_none : errW none = .nilIface := rfl
theorem errW_some (c : Int) : errW (some c) = .iface 0 (.int .i64 c) := rfl

-- the values' own types

end Go.Proofs.Ytjheocofbfmopaa.PI
