/- TopModes, one case: run by the evaluator in the kernel. -/
import Derived.Test.YtjfcnililofepaaGreatDoorEvLTopModes
namespace Go.Proofs.YtjfcnililofepaaGreatDoor.Ev
open Go Go.Proofs
namespace TopModes
theorem run1 : runMK Tryz.prog ⟨[], false⟩ 5000 60 fl (ol ⟨[], false⟩) ml 11 [.bool false] .l 0 isTrue = true := by kernel_rfl
end TopModes
end Go.Proofs.YtjfcnililofepaaGreatDoor.Ev
