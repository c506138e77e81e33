-- printed by a program of this session, made after the kit's own printer
import Derived.Test.YtfnckgpfooilmaaProg
import Derived.Below
import Derived.Deep.Draws
import Derived.Deep.AppendLies
import Derived.Maps.AppendAt
import Derived.OwnWalk
import Derived.Laws.BytesArg
import Derived.Laws.MakeOwn
import Derived.Laws.OwnMore
import Derived.Deep.OwnRows
import Derived.Tactics
import Derived.Lib.ConvBytes
import Derived.Laws.Slices
import Derived.WalkKit
import Derived.KernelRfl
import Derived.RowKit3
import Derived.Deep.LoopGhost
import Derived.Deep.QuietTactic
import Derived.BigQuiet
import Derived.WideLaws
import Derived.Deep.DeepCutAuto
import Derived.Deep.CutBlock
import Derived.Deep.RegionHeld3
import Derived.Laws.Rows
import Derived.Lib.AppendStr
import Derived.ArgAppend
import Derived.Laws.IdiomCopy
import Derived.OrdersHeld
import Derived.Laws.BitsLemmas
import Derived.RowKit
import Derived.Test.YtfnckgpfooilmaaWWords
import Derived.Test.YtfnckgpfooilmaaWLast
import Derived.Test.YtfnckgpfooilmaaWTab
import Derived.Test.YtfnckgpfooilmaaWFour
import Derived.Test.YtfnckgpfooilmaaWQPut
import Derived.Test.YtfnckgpfooilmaaWApart
import Derived.Test.YtfnckgpfooilmaaWArr
import Derived.Test.YtfnckgpfooilmaaWZeros
import Derived.Test.YtfnckgpfooilmaaWFoot
import Derived.Test.YtfnckgpfooilmaaWKept
import Derived.Test.YtfnckgpfooilmaaWShare
import Derived.Test.YtfnckgpfooilmaaWN
import Derived.Test.YtfnckgpfooilmaaWFootNe
import Derived.Test.YtfnckgpfooilmaaWAt
import Derived.Test.YtfnckgpfooilmaaWEqStruct
import Derived.Test.YtfnckgpfooilmaaWRepsOne
import Derived.Test.YtfnckgpfooilmaaWInv
import Derived.Test.YtfnckgpfooilmaaWInvWords
import Derived.Test.YtfnckgpfooilmaaWGuard
import Derived.Test.YtfnckgpfooilmaaWNEv
import Derived.Test.YtfnckgpfooilmaaWMore
import Derived.Test.YtfnckgpfooilmaaWMine
import Derived.Test.YtfnckgpfooilmaaWOpn
namespace Go.Proofs.Ytfnckgpfooilmaa.PCode
open Go.RowKit Go.Proofs.YtfnckgpfooilmaaW.PrintWords Go.Proofs.YtfnckgpfooilmaaW.PrintLast Go.Proofs.YtfnckgpfooilmaaW.PrintMore
attribute [local go_sem] max2_int min2_int max_two min_two max_three min_three max_four min_four   -- for this text's walks alone
set_option linter.unusedVariables false
set_option linter.unusedSimpArgs false



def errW : Option Int → Value
  | none => .nilIface
  | some c => .iface 0 (.int .i64 c)
theorem errW_none : errW none = .nilIface := rfl
theorem errW_some (c : Int) : errW (some c) = .iface 0 (.int .i64 c) := rfl

theorem info5 : (Try.prog.info? 5).map (fun i => (i.zero, i.size, i.bytes)) = some (some (.int .u8 0), 1, 1) := by kernel_rfl
-- the values' own types


end Go.Proofs.Ytfnckgpfooilmaa.PCode
