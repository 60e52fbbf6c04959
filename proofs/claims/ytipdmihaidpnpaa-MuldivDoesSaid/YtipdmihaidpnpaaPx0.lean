-- WRITTEN by a program of this session over the kit's print (hprint.py): functions proved by hand stand among the printed ones
import Derived.Test.YtipdmihaidpnpaaProg
import Derived.Below
import Derived.Deep.Draws
import Derived.Deep.AppendLies
import Derived.Maps.AppendAt
import Derived.OwnWalk
import Derived.Laws.BytesArg
import Derived.Laws.MakeOwn
import Derived.Laws.OwnMore
import Derived.Deep.OwnRows
import Derived.Tactics
import Derived.Lib.ConvBytes
import Derived.Laws.Slices
import Derived.WalkKit
import Derived.KernelRfl
import Derived.RowKit3
import Derived.Deep.LoopGhost
import Derived.Deep.QuietTactic
import Derived.BigQuiet
import Derived.WideLaws
import Derived.Deep.DeepCutAuto
import Derived.Deep.CutBlock
import Derived.Deep.RegionHeld3
import Derived.Laws.Rows
import Derived.Lib.AppendStr
import Derived.ArgAppend
import Derived.Laws.IdiomCopy
import Derived.OrdersHeld
import Derived.Laws.BitsLemmas
import Derived.RowKit
import Derived.Laws.Externs
import Derived.Lib.Mul64
import Derived.Test.YtipdmihaidpnpaaLen64
import Derived.Test.YtipdmihaidpnpaaPre
import Derived.Test.YtipdmihaidpnpaaWWords
import Derived.Test.YtipdmihaidpnpaaWLast
import Derived.Test.YtipdmihaidpnpaaWTab
import Derived.Test.YtipdmihaidpnpaaWFour
import Derived.Test.YtipdmihaidpnpaaWQPut
import Derived.Test.YtipdmihaidpnpaaWApart
import Derived.Test.YtipdmihaidpnpaaWArr
import Derived.Test.YtipdmihaidpnpaaWZeros
import Derived.Test.YtipdmihaidpnpaaWFoot
import Derived.Test.YtipdmihaidpnpaaWKept
import Derived.Test.YtipdmihaidpnpaaWShare
import Derived.Test.YtipdmihaidpnpaaWN
import Derived.Test.YtipdmihaidpnpaaWFootNe
import Derived.Test.YtipdmihaidpnpaaWAt
import Derived.Test.YtipdmihaidpnpaaWEqStruct
import Derived.Test.YtipdmihaidpnpaaWRepsOne
import Derived.Test.YtipdmihaidpnpaaWInv
import Derived.Test.YtipdmihaidpnpaaWInvWords
import Derived.Test.YtipdmihaidpnpaaWGuard
import Derived.Test.YtipdmihaidpnpaaWNEv
import Derived.Test.YtipdmihaidpnpaaWMore
namespace Go.Proofs.Ytipdmihaidpnpaa.P
open Go.RowKit Go.Proofs.YtipdmihaidpnpaaW.PrintWords Go.Proofs.YtipdmihaidpnpaaW.PrintLast Go.Proofs.YtipdmihaidpnpaaW.PrintMore
attribute [local go_sem] max2_int min2_int max_two min_two max_three min_three max_four min_four   -- for this text's walks alone
set_option linter.unusedVariables false
set_option linter.unusedSimpArgs false



def errW : Option Int → Value
  | none => .nilIface
  | some c => .iface 0 (.int .i64 c)
theorem errW_none : errW none = .nilIface := rfl
theorem errW_some (c : Int) : errW (some c) = .iface 0 (.int .i64 c) := rfl

-- the values' own types

end Go.Proofs.Ytipdmihaidpnpaa.P
