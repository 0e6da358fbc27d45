/- TopRevert, one case: run by the evaluator in the kernel. -/
import Derived.Test.YtjfcnililofepaaGreatDoorEvLTopRevert
namespace Go.Proofs.YtjfcnililofepaaGreatDoor.Ev
open Go Go.Proofs
namespace TopRevert
theorem run2 : runMK Tryz.prog ⟨[(1, 4, 2)], false⟩ 5000 60 fl (ol ⟨[(1, 4, 2)], false⟩) ml 4 [.opq .u8 0, .opq .u8 1] .l 0 isTrue = true := by kernel_rfl
end TopRevert
end Go.Proofs.YtjfcnililofepaaGreatDoor.Ev
