/- TopSquash, one case: run by the evaluator in the kernel. -/
import Derived.Test.YtjfcnililofepaaGreatDoorEvLTopSquash
namespace Go.Proofs.YtjfcnililofepaaGreatDoor.Ev
open Go Go.Proofs
namespace TopSquash
theorem run3 : runMK Tryz.prog ⟨[(0, 4, 3)], false⟩ 5000 60 fl (ol ⟨[(0, 4, 3)], false⟩) ml 7 [.opq .u8 0] .l 0 isTrue = true := by kernel_rfl
end TopSquash
end Go.Proofs.YtjfcnililofepaaGreatDoor.Ev
