/- TopRebase, one case: run by the evaluator in the kernel. -/
import Derived.Test.YtjfcnililofepaaGreatDoorEvLTopRebase
namespace Go.Proofs.YtjfcnililofepaaGreatDoor.Ev
open Go Go.Proofs
namespace TopRebase
theorem run3 : runMK Tryz.prog ⟨[(0, 6, 3)], false⟩ 5000 60 fl (ol ⟨[(0, 6, 3)], false⟩) ml 6 [.opq .u8 0] .l 0 isTrue = true := by kernel_rfl
end TopRebase
end Go.Proofs.YtjfcnililofepaaGreatDoor.Ev
