/- What the disk law's known file comes to. Plain. -/
import Derived.Test.YtopnhplacdbkdaaDiskM
namespace Go.Proofs.Ytopnhplacdbkdaa
namespace DiskM
def kn0 : DS := fresh 100
def kn1 : DS := (append kn0 [97] [97, 98]).2
def kn2 : DS := (sync kn1 [97]).2
def kn3 : DS := (append kn2 [97] [99, 100]).2
def kn4 : DS := crash kn3 [1]
def kn5 : DS := (rename kn4 [97] [98]).2
def kn6 : DS := (remove kn5 [97]).2
theorem kn1_e : (append kn0 [97] [97, 98]).1 = 0 := by decide
theorem kn2_e : (sync kn1 [97]).1 = 0 := by decide
theorem kn3_e : (append kn2 [97] [99, 100]).1 = 0 := by decide
theorem kn4_r : read kn4 [97] = ([97, 98, 99], 0) := by decide
theorem kn4_s : (old kn4 [97]).2 = 3 := by decide
theorem kn4_u : used kn4.files = 3 := by decide
theorem kn4_room : kn4.room = 100 := by decide
theorem kn4_n : (kn4.files.map (·.1)).length = 1 := by decide
theorem kn5_e : (rename kn4 [97] [98]).1 = 0 := by decide
theorem kn6_e : (remove kn5 [97]).1 = 12 := by decide
theorem kn7_e : (remove kn6 [98]).1 = 0 := by decide
theorem kn0_f : kn0.files.length < 1000000 := by decide
theorem kn2_f : kn2.files.length < 1000000 := by decide
end DiskM
end Go.Proofs.Ytopnhplacdbkdaa
