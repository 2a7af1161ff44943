/- What these functions answer, and that the machine's calls answer so (a text printed by programs, with parts by hand). -/
import Derived.Test.YtecomenbmdembaaProg
import Derived.Below
import Derived.Deep.Draws
import Derived.Deep.AppendLies
import Derived.Maps.AppendAt
import Derived.OwnWalk
import Derived.Laws.BytesArg
import Derived.Laws.MakeOwn
import Derived.Laws.OwnMore
import Derived.Deep.OwnRows
import Derived.Tactics
import Derived.Lib.ConvBytes
import Derived.Laws.Slices
import Derived.WalkKit
import Derived.KernelRfl
import Derived.RowKit3
import Derived.Deep.LoopGhost
import Derived.Deep.QuietTactic
import Derived.BigQuiet
import Derived.WideLaws
import Derived.Deep.DeepCutAuto
import Derived.Deep.CutBlock
import Derived.Deep.RegionHeld3
import Derived.Laws.Rows
import Derived.Lib.AppendStr
import Derived.ArgAppend
import Derived.Laws.IdiomCopy
import Derived.OrdersHeld
import Derived.Laws.BitsLemmas
import Derived.RowKit
import Derived.Test.YtecomenbmdembaaWWords
import Derived.Test.YtecomenbmdembaaWLast
import Derived.Test.YtecomenbmdembaaWTab
import Derived.Test.YtecomenbmdembaaWFour
import Derived.Test.YtecomenbmdembaaWQPut
import Derived.Test.YtecomenbmdembaaWApart
import Derived.Test.YtecomenbmdembaaWArr
import Derived.Test.YtecomenbmdembaaWZeros
import Derived.Test.YtecomenbmdembaaWFoot
import Derived.Test.YtecomenbmdembaaWKept
import Derived.Test.YtecomenbmdembaaWShare
import Derived.Test.YtecomenbmdembaaWN
import Derived.Test.YtecomenbmdembaaWFootNe
import Derived.Test.YtecomenbmdembaaWAt
import Derived.Test.YtecomenbmdembaaWEqStruct
import Derived.Test.YtecomenbmdembaaWRepsOne
import Derived.Test.YtecomenbmdembaaWInv
import Derived.Test.YtecomenbmdembaaWInvWords
import Derived.Test.YtecomenbmdembaaWGuard
import Derived.Test.YtecomenbmdembaaWNEv
import Derived.Test.YtecomenbmdembaaWMore
namespace Go.Proofs.Ytecomenbmdembaa.Pd
open Go.RowKit Go.Proofs.YtecomenbmdembaaW.PrintWords Go.Proofs.YtecomenbmdembaaW.PrintLast Go.Proofs.YtecomenbmdembaaW.PrintMore
attribute [local go_sem] max2_int min2_int max_two min_two max_three min_three max_four min_four   -- for this text's walks alone
set_option linter.unusedVariables false
set_option linter.unusedSimpArgs false



def errW : Option Int → Value
  | none => .nilIface
  | some c => .iface 0 (.int .i64 c)
theorem errW_none : errW none = .nilIface := rfl
theorem errW_some (c : Int) : errW (some c) = .iface 0 (.int .i64 c) := rfl

theorem info3 : (Try.prog.info? 3).map (fun i => (i.zero, i.size, i.bytes)) = some (some (.int .i64 0), 1, 8) := by kernel_rfl
-- the values' own types

end Go.Proofs.Ytecomenbmdembaa.Pd
