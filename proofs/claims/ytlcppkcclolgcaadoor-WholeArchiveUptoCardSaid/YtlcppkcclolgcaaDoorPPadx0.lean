-- PRINTED BY print.sh 35421559b90ae4d0a3588c463048766b98c2df88dd9212a6774a882060cdf62d: not written by this session
import Derived.Test.YtlcppkcclolgcaaDoorProg
import Derived.Below
import Derived.Deep.Draws
import Derived.Deep.AppendLies
import Derived.Maps.AppendAt
import Derived.OwnWalk
import Derived.Laws.BytesArg
import Derived.Laws.MakeOwn
import Derived.Laws.OwnMore
import Derived.Deep.OwnRows
import Derived.Tactics
import Derived.Lib.ConvBytes
import Derived.Laws.Slices
import Derived.WalkKit
import Derived.KernelRfl
import Derived.RowKit3
import Derived.Deep.LoopGhost
import Derived.Deep.QuietTactic
import Derived.BigQuiet
import Derived.WideLaws
import Derived.Deep.DeepCutAuto
import Derived.Deep.CutBlock
import Derived.Deep.RegionHeld3
import Derived.Laws.Rows
import Derived.Lib.AppendStr
import Derived.ArgAppend
import Derived.Laws.IdiomCopy
import Derived.OrdersHeld
import Derived.Laws.BitsLemmas
import Derived.RowKit
import Derived.Test.YtlcppkcclolgcaaDoorWWords
import Derived.Test.YtlcppkcclolgcaaDoorWLast
import Derived.Test.YtlcppkcclolgcaaDoorWTab
import Derived.Test.YtlcppkcclolgcaaDoorWFour
import Derived.Test.YtlcppkcclolgcaaDoorWQPut
import Derived.Test.YtlcppkcclolgcaaDoorWApart
import Derived.Test.YtlcppkcclolgcaaDoorWArr
import Derived.Test.YtlcppkcclolgcaaDoorWZeros
import Derived.Test.YtlcppkcclolgcaaDoorWFoot
import Derived.Test.YtlcppkcclolgcaaDoorWKept
import Derived.Test.YtlcppkcclolgcaaDoorWShare
import Derived.Test.YtlcppkcclolgcaaDoorWN
import Derived.Test.YtlcppkcclolgcaaDoorWFootNe
import Derived.Test.YtlcppkcclolgcaaDoorWAt
import Derived.Test.YtlcppkcclolgcaaDoorWEqStruct
import Derived.Test.YtlcppkcclolgcaaDoorWRepsOne
import Derived.Test.YtlcppkcclolgcaaDoorWInv
import Derived.Test.YtlcppkcclolgcaaDoorWInvWords
import Derived.Test.YtlcppkcclolgcaaDoorWGuard
import Derived.Test.YtlcppkcclolgcaaDoorWNEv
import Derived.Test.YtlcppkcclolgcaaDoorWMore
namespace Go.Proofs.YtlcppkcclolgcaaDoor.PPad
open Go.RowKit Go.Proofs.YtlcppkcclolgcaaDoorW.PrintWords Go.Proofs.YtlcppkcclolgcaaDoorW.PrintLast Go.Proofs.YtlcppkcclolgcaaDoorW.PrintMore
attribute [local go_sem] max2_int min2_int max_two min_two max_three min_three max_four min_four   -- for this text's walks alone
set_option linter.unusedVariables false
set_option linter.unusedSimpArgs false



def errW : Option Int → Value
  | none => .nilIface
  | some c => .iface 0 (.int .i64 c)
theorem errW_none : errW none = .nilIface := rfl
theorem errW_some (c : Int) : errW (some c) = .iface 0 (.int .i64 c) := rfl

theorem info5 : (Tryd.prog.info? 5).map (fun i => (i.zero, i.size, i.bytes)) = some (some (.int .u8 0), 1, 1) := by kernel_rfl
-- the values' own types

end Go.Proofs.YtlcppkcclolgcaaDoor.PPad
