/- TopEdit, one case: run by the evaluator in the kernel. -/
import Derived.Test.YtjfcnililofepaaGreatDoorEvLTopEdit
namespace Go.Proofs.YtjfcnililofepaaGreatDoor.Ev
open Go Go.Proofs
namespace TopEdit
theorem run1 : runMK Tryz.prog ⟨[], false⟩ 5000 60 fl (ol ⟨[], false⟩) ml 10 [.bool false] .l 0 isTrue = true := by kernel_rfl
end TopEdit
end Go.Proofs.YtjfcnililofepaaGreatDoor.Ev
