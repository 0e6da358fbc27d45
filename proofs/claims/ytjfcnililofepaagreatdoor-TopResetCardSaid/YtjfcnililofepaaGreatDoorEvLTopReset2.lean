/- TopReset, one case: run by the evaluator in the kernel. -/
import Derived.Test.YtjfcnililofepaaGreatDoorEvLTopReset
namespace Go.Proofs.YtjfcnililofepaaGreatDoor.Ev
open Go Go.Proofs
namespace TopReset
theorem run2 : runMK Tryz.prog ⟨[(2, 3, 2)], false⟩ 5000 60 fl (ol ⟨[(2, 3, 2)], false⟩) ml 3 [.opq .u8 0, .opq .u8 1, .opq .u8 2] .l 0 isTrue = true := by kernel_rfl
end TopReset
end Go.Proofs.YtjfcnililofepaaGreatDoor.Ev
