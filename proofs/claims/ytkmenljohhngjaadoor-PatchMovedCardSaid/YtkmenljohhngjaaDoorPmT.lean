/- What an error tells: its words, what it is. -/
import Derived.Test.YtkmenljohhngjaaDoorPm6
import Derived.Test.YtkmenljohhngjaaDoorBits
import Derived.Test.YtkmenljohhngjaaDoorLines
import Derived.Lib.ItoaLen
namespace Go.Proofs.YtkmenljohhngjaaDoor
open Go
def decB (n : Int) : ByteArray := ⟨(Lib.itoa n).toArray⟩
theorem LL_decB (n : Int) : LL (decB n) = Lib.itoa n := rfl
theorem decB_size {n : Int} (h : inR .i64 n) : (decB n).size ≤ 21 := by
  rw [inR_i64] at h
  have := Lib.itoa_length_le n (by omega) (by omega)
  rw [← LL_len]; exact this
theorem cat_size (a b : ByteArray) : (a ++ b).size = a.size + b.size := by simp
end Go.Proofs.YtkmenljohhngjaaDoor
