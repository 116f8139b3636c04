-- Printed for ConfValid of this claim, with some functions given by hand (wip/gprint.py).
import Derived.Test.YteaihgjjplgalaaDoorProg
import Derived.Below
import Derived.Deep.Draws
import Derived.Deep.AppendLies
import Derived.Maps.AppendAt
import Derived.OwnWalk
import Derived.Laws.BytesArg
import Derived.Laws.MakeOwn
import Derived.Laws.OwnMore
import Derived.Deep.OwnRows
import Derived.Tactics
import Derived.Lib.ConvBytes
import Derived.Laws.Slices
import Derived.WalkKit
import Derived.KernelRfl
import Derived.RowKit3
import Derived.Deep.LoopGhost
import Derived.Deep.QuietTactic
import Derived.BigQuiet
import Derived.WideLaws
import Derived.Deep.DeepCutAuto
import Derived.Deep.CutBlock
import Derived.Deep.RegionHeld3
import Derived.Laws.Rows
import Derived.Lib.AppendStr
import Derived.ArgAppend
import Derived.Laws.IdiomCopy
import Derived.OrdersHeld
import Derived.Laws.BitsLemmas
import Derived.RowKit
import Derived.Test.YteaihgjjplgalaaDoorWWords
import Derived.Test.YteaihgjjplgalaaDoorWLast
import Derived.Test.YteaihgjjplgalaaDoorWTab
import Derived.Test.YteaihgjjplgalaaDoorWFour
import Derived.Test.YteaihgjjplgalaaDoorWQPut
import Derived.Test.YteaihgjjplgalaaDoorWApart
import Derived.Test.YteaihgjjplgalaaDoorWArr
import Derived.Test.YteaihgjjplgalaaDoorWZeros
import Derived.Test.YteaihgjjplgalaaDoorWFoot
import Derived.Test.YteaihgjjplgalaaDoorWKept
import Derived.Test.YteaihgjjplgalaaDoorWShare
import Derived.Test.YteaihgjjplgalaaDoorWN
import Derived.Test.YteaihgjjplgalaaDoorWFootNe
import Derived.Test.YteaihgjjplgalaaDoorWAt
import Derived.Test.YteaihgjjplgalaaDoorWEqStruct
import Derived.Test.YteaihgjjplgalaaDoorWRepsOne
import Derived.Test.YteaihgjjplgalaaDoorWInv
import Derived.Test.YteaihgjjplgalaaDoorWInvWords
import Derived.Test.YteaihgjjplgalaaDoorWGuard
import Derived.Test.YteaihgjjplgalaaDoorWNEv
import Derived.Test.YteaihgjjplgalaaDoorWMore
namespace Go.Proofs.YteaihgjjplgalaaDoor.PConfValid
open Go.RowKit Go.Proofs.YteaihgjjplgalaaDoorW.PrintWords Go.Proofs.YteaihgjjplgalaaDoorW.PrintLast Go.Proofs.YteaihgjjplgalaaDoorW.PrintMore
attribute [local go_sem] max2_int min2_int max_two min_two max_three min_three max_four min_four   -- for this text's walks alone
set_option linter.unusedVariables false
set_option linter.unusedSimpArgs false



def errW : Option Int → Value
  | none => .nilIface
  | some c => .iface 0 (.int .i64 c)
theorem errW_none : errW none = .nilIface := rfl
theorem errW_some (c : Int) : errW (some c) = .iface 0 (.int .i64 c) := rfl

theorem info2 : (Tryd.prog.info? 2).map (fun i => (i.zero, i.size, i.bytes)) = some (some (.int .i64 0), 1, 8) := by kernel_rfl
-- the values' own types

end Go.Proofs.YteaihgjjplgalaaDoor.PConfValid
