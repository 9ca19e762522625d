-- PRINTED BY print.sh 35421559b90ae4d0a3588c463048766b98c2df88dd9212a6774a882060cdf62d: not written by this session
import Derived.Test.YtfecgfefchdapaaDoorProg
import Derived.Below
import Derived.Deep.Draws
import Derived.Deep.AppendLies
import Derived.Maps.AppendAt
import Derived.OwnWalk
import Derived.Laws.BytesArg
import Derived.Laws.MakeOwn
import Derived.Laws.OwnMore
import Derived.Deep.OwnRows
import Derived.Tactics
import Derived.Lib.ConvBytes
import Derived.Laws.Slices
import Derived.WalkKit
import Derived.KernelRfl
import Derived.RowKit3
import Derived.Deep.LoopGhost
import Derived.Deep.QuietTactic
import Derived.BigQuiet
import Derived.WideLaws
import Derived.Deep.DeepCutAuto
import Derived.Deep.CutBlock
import Derived.Deep.RegionHeld3
import Derived.Laws.Rows
import Derived.Lib.AppendStr
import Derived.ArgAppend
import Derived.Laws.IdiomCopy
import Derived.OrdersHeld
import Derived.Laws.BitsLemmas
import Derived.RowKit
import Derived.Test.YtfecgfefchdapaaDoorWWords
import Derived.Test.YtfecgfefchdapaaDoorWLast
import Derived.Test.YtfecgfefchdapaaDoorWTab
import Derived.Test.YtfecgfefchdapaaDoorWFour
import Derived.Test.YtfecgfefchdapaaDoorWQPut
import Derived.Test.YtfecgfefchdapaaDoorWApart
import Derived.Test.YtfecgfefchdapaaDoorWArr
import Derived.Test.YtfecgfefchdapaaDoorWZeros
import Derived.Test.YtfecgfefchdapaaDoorWFoot
import Derived.Test.YtfecgfefchdapaaDoorWKept
import Derived.Test.YtfecgfefchdapaaDoorWShare
import Derived.Test.YtfecgfefchdapaaDoorWN
import Derived.Test.YtfecgfefchdapaaDoorWFootNe
import Derived.Test.YtfecgfefchdapaaDoorWAt
import Derived.Test.YtfecgfefchdapaaDoorWEqStruct
import Derived.Test.YtfecgfefchdapaaDoorWRepsOne
import Derived.Test.YtfecgfefchdapaaDoorWInv
import Derived.Test.YtfecgfefchdapaaDoorWInvWords
import Derived.Test.YtfecgfefchdapaaDoorWGuard
import Derived.Test.YtfecgfefchdapaaDoorWNEv
import Derived.Test.YtfecgfefchdapaaDoorWMore
namespace Go.Proofs.YtfecgfefchdapaaDoor.PMake
open Go.RowKit Go.Proofs.YtfecgfefchdapaaDoorW.PrintWords Go.Proofs.YtfecgfefchdapaaDoorW.PrintLast Go.Proofs.YtfecgfefchdapaaDoorW.PrintMore
attribute [local go_sem] max2_int min2_int max_two min_two max_three min_three max_four min_four   -- for this text's walks alone
set_option linter.unusedVariables false
set_option linter.unusedSimpArgs false



def errW : Option Int → Value
  | none => .nilIface
  | some c => .iface 0 (.int .i64 c)
theorem errW_none : errW none = .nilIface := rfl
theorem errW_some (c : Int) : errW (some c) = .iface 0 (.int .i64 c) := rfl

-- the values' own types

end Go.Proofs.YtfecgfefchdapaaDoor.PMake
