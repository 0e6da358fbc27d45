/- TopUntracked, one case: run by the evaluator in the kernel. -/
import Derived.Test.YtjfcnililofepaaGreatDoorEvLTopUntracked
namespace Go.Proofs.YtjfcnililofepaaGreatDoor.Ev
open Go Go.Proofs
namespace TopUntracked
theorem run0 : runMK Tryz.prog ⟨[], false⟩ 5000 60 fl (ol ⟨[], false⟩) ml 14 [.opq .u8 0, .bool true] .l 0 isTrue = true := by kernel_rfl
end TopUntracked
end Go.Proofs.YtjfcnililofepaaGreatDoor.Ev
