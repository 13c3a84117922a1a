-- Laid by a program of this session (printall.sh) out of the translation: contracts of the functions that several laws reach. Lean checks it.
import Derived.Test.YtglmilgphbflaaaProg
import Derived.Below
import Derived.Deep.Draws
import Derived.Deep.AppendLies
import Derived.Maps.AppendAt
import Derived.OwnWalk
import Derived.Laws.BytesArg
import Derived.Laws.MakeOwn
import Derived.Laws.OwnMore
import Derived.Deep.OwnRows
import Derived.Tactics
import Derived.Lib.ConvBytes
import Derived.Laws.Slices
import Derived.WalkKit
import Derived.KernelRfl
import Derived.RowKit3
import Derived.Deep.LoopGhost
import Derived.Deep.QuietTactic
import Derived.BigQuiet
import Derived.WideLaws
import Derived.Deep.DeepCutAuto
import Derived.Deep.CutBlock
import Derived.Deep.RegionHeld3
import Derived.Laws.Rows
import Derived.Lib.AppendStr
import Derived.ArgAppend
import Derived.Laws.IdiomCopy
import Derived.OrdersHeld
import Derived.Laws.BitsLemmas
import Derived.RowKit
import Derived.Test.YtglmilgphbflaaaWWords
import Derived.Test.YtglmilgphbflaaaWLast
import Derived.Test.YtglmilgphbflaaaWTab
import Derived.Test.YtglmilgphbflaaaWFour
import Derived.Test.YtglmilgphbflaaaWQPut
import Derived.Test.YtglmilgphbflaaaWApart
import Derived.Test.YtglmilgphbflaaaWArr
import Derived.Test.YtglmilgphbflaaaWZeros
import Derived.Test.YtglmilgphbflaaaWFoot
import Derived.Test.YtglmilgphbflaaaWKept
import Derived.Test.YtglmilgphbflaaaWShare
import Derived.Test.YtglmilgphbflaaaWN
import Derived.Test.YtglmilgphbflaaaWFootNe
import Derived.Test.YtglmilgphbflaaaWAt
import Derived.Test.YtglmilgphbflaaaWEqStruct
import Derived.Test.YtglmilgphbflaaaWRepsOne
import Derived.Test.YtglmilgphbflaaaWInv
import Derived.Test.YtglmilgphbflaaaWInvWords
import Derived.Test.YtglmilgphbflaaaWGuard
import Derived.Test.YtglmilgphbflaaaWNEv
import Derived.Test.YtglmilgphbflaaaWMore
namespace Go.Proofs.Ytglmilgphbflaaa.Q
open Go.RowKit Go.Proofs.YtglmilgphbflaaaW.PrintWords Go.Proofs.YtglmilgphbflaaaW.PrintLast Go.Proofs.YtglmilgphbflaaaW.PrintMore
attribute [local go_sem] max2_int min2_int max_two min_two max_three min_three max_four min_four   -- for this text's walks alone
set_option linter.unusedVariables false
set_option linter.unusedSimpArgs false



def errW : Option Int → Value
  | none => .nilIface
  | some c => .iface 0 (.int .i64 c)
theorem errW_none : errW none = .nilIface := rfl
theorem errW_some (c : Int) : errW (some c) = .iface 0 (.int .i64 c) := rfl

theorem info3 : (Try.prog.info? 3).map (fun i => (i.zero, i.size, i.bytes)) = some (some (.int .i64 0), 1, 8) := by kernel_rfl
-- the values' own types

end Go.Proofs.Ytglmilgphbflaaa.Q
