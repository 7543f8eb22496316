/- What the statement DiskArmed's file comes to. Plain. -/
import Derived.Test.YtopnhplacdbkdaaDiskKeepsM
namespace Go.Proofs.Ytopnhplacdbkdaa
namespace DiskM
def ka (b : List UInt8) (s : Nat) (l : Int) (dn down : Bool) : DS := { files := [([120], (b, s))], room := 1000, left := l, done := dn, down := down }
theorem named_x : named [120] = true := by decide
theorem named_y : named [121] = true := by decide
theorem arm_first : append (fresh 1000) [120] [49, 50] = (0, ka [49, 50] 0 (-1) false false) := by
  have hn := named_x
  have hr : (fresh 1000).room = 1000 := by decide
  have ha : appendAsk (fresh 1000) [120] [49, 50] = 0 := by
    unfold appendAsk
    rw [if_pos hn, hr, show used (fresh 1000).files = 0 from rfl, if_neg (by decide)]
  unfold append write
  rw [ha]
  rfl
theorem arm_arm (b : List UInt8) (s : Nat) (l : Int) (dn : Bool) (k : Nat) (done : Bool) : arm (ka b s l dn false) (k : Int) done = ka b s (k : Int) done false := by
  unfold arm
  rw [if_neg (by show ¬ (false = true); decide)]
  have : max (k : Int) (-1) = (k : Int) := by omega
  rw [this]; rfl
theorem arm_none (b : List UInt8) (s : Nat) (l : Int) (dn : Bool) : sync (ka b s l dn false) [110, 111, 110, 101] = (12, ka b s l dn false) := rfl
theorem ask_x (b x : List UInt8) (s : Nat) (l : Int) (dn down : Bool) (h : b.length + x.length ≤ 1000) : appendAsk (ka b s l dn down) [120] x = 0 := by
  unfold appendAsk
  rw [if_pos named_x, show (ka b s l dn down).room = 1000 from rfl, show used (ka b s l dn down).files = b.length from used_one _ _, if_neg (by omega)]
theorem gone_pos (b : List UInt8) (s : Nat) (l : Int) (dn : Bool) (h : 0 < l) : gone (ka b s l dn false) = ka b s (l - 1) dn false := by
  unfold gone
  rw [if_neg (show ¬ (ka b s l dn false).left < 0 by show ¬ l < 0; omega), if_pos (show 0 < (ka b s l dn false).left from h)]; rfl
theorem gone_zero (b : List UInt8) (s : Nat) (dn : Bool) : gone (ka b s 0 dn false) = ka b s (-1) dn true := rfl
theorem arm_more (b : List UInt8) (l : Int) (dn : Bool) (hl : 0 < l) (hb : b.length ≤ 900) : append (ka b 0 l dn false) [120] [51] = (0, ka (b ++ [51]) 0 (l - 1) dn false) := by
  unfold append write
  rw [ask_x b [51] 0 l dn false (by simp; omega), gone_pos b 0 l dn hl]
  have hg : goes (ka b 0 l dn false) = true := by unfold goes; rw [decide_eq_true_eq]; show l ≠ 0; omega
  rw [if_neg (by show ¬ (false = true); decide), if_neg (by decide), if_pos hg]
  rfl
theorem arm_e0 (b : List UInt8) (dn : Bool) (hb : b.length ≤ 900) : append (ka b 0 0 dn false) [120] [52, 53] = (15, ka (b ++ [52, 53]) 0 (-1) dn true) := by
  unfold append write
  rw [ask_x b [52, 53] 0 0 dn false (by simp; omega)]
  cases dn <;> rfl
theorem arm_e1 (b : List UInt8) (dn : Bool) : sync (ka b 0 0 dn false) [120] = (15, ka b (if dn then b.length else 0) (-1) dn true) := by cases dn <;> rfl
def ky (b : List UInt8) (dn : Bool) : DS := { files := [(if dn then [121] else [120], (b, 0))], room := 1000, left := -1, done := dn, down := true }
def kz (b : List UInt8) (dn : Bool) : DS := { files := if dn then [] else [([120], (b, 0))], room := 1000, left := -1, done := dn, down := true }
theorem kz_few (b : List UInt8) (dn : Bool) : (kz b dn).files.length < 1000000 := by
  cases dn
  · show 1 < 1000000; omega
  · show 0 < 1000000; omega
theorem arm_e2 (b : List UInt8) (dn : Bool) : rename (ka b 0 0 dn false) [120] [121] = (15, ky b dn) := by
  have hn := named_y
  unfold rename renameAsk
  rw [if_pos (show has (ka b 0 0 dn false) [120] = 0 from rfl), if_pos hn]
  cases dn <;> rfl
theorem arm_e3 (b : List UInt8) (dn : Bool) : remove (ka b 0 0 dn false) [120] = (15, kz b dn) := by cases dn <;> rfl
section
variable {d : DS} (h : d.down = true)
include h
theorem write_down (a : Nat) (f g : DS → DS) : write d a f g = (15, d) := by unfold write; rw [if_pos h]
theorem append_down (k : Nm) (b : List UInt8) : append d k b = (15, d) := write_down h _ _ _
theorem sync_down (k : Nm) : sync d k = (15, d) := write_down h _ _ _
theorem rename_down (k k2 : Nm) : rename d k k2 = (15, d) := write_down h _ _ _
theorem remove_down (k : Nm) : remove d k = (15, d) := write_down h _ _ _
theorem read_down (k : Nm) : read d k = ([], 15) := by unfold read; rw [if_pos h]
end
/-- what was appended till now -/
def ax (j : Nat) : List UInt8 := [49, 50] ++ List.replicate j 51
theorem ax_zero : ax 0 = [49, 50] := rfl
theorem ax_succ (j : Nat) : ax j ++ [51] = ax (j + 1) := by
  unfold ax
  rw [List.append_assoc, ← List.replicate_succ']
theorem ax_length (j : Nat) : (ax j).length = j + 2 := by unfold ax; simp
end DiskM
end Go.Proofs.Ytopnhplacdbkdaa
