/- What the statement DiskKeeps' file comes to. Plain. -/
import Derived.Test.YtopnhplacdbkdaaDiskM
namespace Go.Proofs.Ytopnhplacdbkdaa
namespace DiskM
def kp (b : List UInt8) : DS := { files := [([102], (b, 0))], room := 1000, left := -1, done := false, down := false }
theorem used_one (k : Nm) (v : List UInt8 × Nat) : used [(k, v)] = v.1.length := by simp [used]
theorem kp_first (b : List UInt8) (h : b.length ≤ 1000) : append (fresh 1000) [102] b = (0, kp b) := by
  have hn : named [102] = true := by decide
  have hr : (fresh 1000).room = 1000 := by decide
  have ha : appendAsk (fresh 1000) [102] b = 0 := by
    unfold appendAsk
    rw [if_pos hn, hr, show used (fresh 1000).files = 0 from rfl, if_neg (by omega)]
  unfold append write
  rw [ha]
  rfl
theorem kp_second (b c : List UInt8) (h : b.length + c.length ≤ 1000) : append (kp b) [102] c = (0, kp (b ++ c)) := by
  have hn : named [102] = true := by decide
  have ha : appendAsk (kp b) [102] c = 0 := by
    unfold appendAsk
    rw [if_pos hn, show (kp b).room = 1000 from rfl, show used (kp b).files = b.length from used_one _ _, if_neg (by omega)]
  unfold append write
  rw [ha]
  rfl
theorem kp_read (b : List UInt8) : read (kp b) [102] = (b, 0) := rfl
theorem kp_used (b : List UInt8) : used (kp b).files = b.length := used_one _ _
theorem kp_few (b : List UInt8) : (kp b).files.length < 1000000 := by show 1 < 1000000; omega
theorem fresh_few (r : Int) : (fresh r).files.length < 1000000 := by show 0 < 1000000; omega
end DiskM
end Go.Proofs.Ytopnhplacdbkdaa
