-- Lean text written by this session's own program (wip/tools/myprint.py) for this claim
import Derived.Test.YtamfhlafhkgapaaProg
import Derived.Below
import Derived.Deep.Draws
import Derived.Deep.AppendLies
import Derived.Maps.AppendAt
import Derived.OwnWalk
import Derived.Laws.BytesArg
import Derived.Laws.MakeOwn
import Derived.Laws.OwnMore
import Derived.Deep.OwnRows
import Derived.Tactics
import Derived.Lib.ConvBytes
import Derived.Laws.Slices
import Derived.WalkKit
import Derived.KernelRfl
import Derived.RowKit3
import Derived.Deep.LoopGhost
import Derived.Deep.QuietTactic
import Derived.BigQuiet
import Derived.WideLaws
import Derived.Deep.DeepCutAuto
import Derived.Deep.CutBlock
import Derived.Deep.RegionHeld3
import Derived.Laws.Rows
import Derived.Lib.AppendStr
import Derived.ArgAppend
import Derived.Laws.IdiomCopy
import Derived.OrdersHeld
import Derived.Laws.BitsLemmas
import Derived.RowKit
import Derived.Test.YtamfhlafhkgapaaWWords
import Derived.Test.YtamfhlafhkgapaaWLast
import Derived.Test.YtamfhlafhkgapaaWTab
import Derived.Test.YtamfhlafhkgapaaWFour
import Derived.Test.YtamfhlafhkgapaaWQPut
import Derived.Test.YtamfhlafhkgapaaWApart
import Derived.Test.YtamfhlafhkgapaaWArr
import Derived.Test.YtamfhlafhkgapaaWZeros
import Derived.Test.YtamfhlafhkgapaaWFoot
import Derived.Test.YtamfhlafhkgapaaWKept
import Derived.Test.YtamfhlafhkgapaaWShare
import Derived.Test.YtamfhlafhkgapaaWN
import Derived.Test.YtamfhlafhkgapaaWFootNe
import Derived.Test.YtamfhlafhkgapaaWAt
import Derived.Test.YtamfhlafhkgapaaWEqStruct
import Derived.Test.YtamfhlafhkgapaaWRepsOne
import Derived.Test.YtamfhlafhkgapaaWInv
import Derived.Test.YtamfhlafhkgapaaWInvWords
import Derived.Test.YtamfhlafhkgapaaWGuard
import Derived.Test.YtamfhlafhkgapaaWNEv
import Derived.Test.YtamfhlafhkgapaaWMore
namespace Go.Proofs.Ytamfhlafhkgapaa.Px
open Go.RowKit Go.Proofs.YtamfhlafhkgapaaW.PrintWords Go.Proofs.YtamfhlafhkgapaaW.PrintLast Go.Proofs.YtamfhlafhkgapaaW.PrintMore
attribute [local go_sem] max2_int min2_int max_two min_two max_three min_three max_four min_four   -- for this text's walks alone
set_option linter.unusedVariables false
set_option linter.unusedSimpArgs false



def errW : Option Int → Value
  | none => .nilIface
  | some c => .iface 0 (.int .i64 c)
theorem errW_none : errW none = .nilIface := rfl
theorem errW_some (c : Int) : errW (some c) = .iface 0 (.int .i64 c) := rfl

theorem pw_reads_len {α : Type} {R : α → List Value → Prop} {size : Nat} {w : World} {A : Option Addr} {a b : Nat} {ps : List α} (e : a = b) (h : ReadsRow R size w A a ps) : ReadsRow R size w A b ps := e ▸ h
theorem info3 : (Try.prog.info? 3).map (fun i => (i.zero, i.size, i.bytes)) = some (some (.int .i64 0), 1, 8) := by kernel_rfl
-- the values' own types

end Go.Proofs.Ytamfhlafhkgapaa.Px
