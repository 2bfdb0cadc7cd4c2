/- This session's texts for the claim, joined and shortened by this session's own program pack.py: what the claim does not need is struck. Part: PN0. -/
import Derived.Test.YtkdfilpinlebbaaDoorProg
import Derived.Below
import Derived.Deep.Draws
import Derived.Deep.AppendLies
import Derived.Maps.AppendAt
import Derived.OwnWalk
import Derived.Laws.BytesArg
import Derived.Laws.MakeOwn
import Derived.Laws.OwnMore
import Derived.Deep.OwnRows
import Derived.Tactics
import Derived.Lib.ConvBytes
import Derived.Laws.Slices
import Derived.WalkKit
import Derived.KernelRfl
import Derived.RowKit3
import Derived.Deep.LoopGhost
import Derived.Deep.QuietTactic
import Derived.BigQuiet
import Derived.WideLaws
import Derived.Deep.DeepCutAuto
import Derived.Deep.CutBlock
import Derived.Deep.RegionHeld3
import Derived.Laws.Rows
import Derived.Lib.AppendStr
import Derived.ArgAppend
import Derived.Laws.IdiomCopy
import Derived.OrdersHeld
import Derived.Laws.BitsLemmas
import Derived.RowKit
import Derived.WalkLawsBesides
import Derived.Test.YtkdfilpinlebbaaDoorQGLibO
import Derived.Test.YtkdfilpinlebbaaDoorQW0
namespace Go.Proofs.YtkdfilpinlebbaaDoor.PN
open Go.RowKit Go.Proofs.YtkdfilpinlebbaaDoor.G Go.Proofs.YtkdfilpinlebbaaDoorW.PrintWords Go.Proofs.YtkdfilpinlebbaaDoorW.PrintLast Go.Proofs.YtkdfilpinlebbaaDoorW.PrintMore
attribute [local go_sem] max2_int min2_int max_two min_two max_three min_three max_four min_four
set_option linter.unusedVariables false
set_option linter.unusedSimpArgs false
def errW : Option Int → Value
  | none => .nilIface
  | some c => .iface 0 (.int .i64 c)
theorem errW_none : errW none = .nilIface := rfl
theorem errW_some (c : Int) : errW (some c) = .iface 0 (.int .i64 c) := rfl
theorem info5 : (Tryd.prog.info? 5).map (fun i => (i.zero, i.size, i.bytes)) = some (some (.int .u8 0), 1, 1) := by kernel_rfl
end Go.Proofs.YtkdfilpinlebbaaDoor.PN
