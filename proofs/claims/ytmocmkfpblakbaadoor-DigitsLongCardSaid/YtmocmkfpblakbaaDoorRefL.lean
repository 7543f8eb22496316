/- The walk of the document's count: decimal digits from a place on. Condition: the place lies in the text; Go's own limit of a text. -/
import Derived.Test.YtmocmkfpblakbaaDoorDecM
import Derived.Test.YtmocmkfpblakbaaDoorDigA
namespace Go.Proofs.YtmocmkfpblakbaaDoor
open Go.RowKit WordsM DecM

/-- what count gives, from a place on -/
def cnt (l : List UInt8) (at_ most : Nat) : Int := if digN l < 1 ∨ most < digN l ∨ (l.headD 0 = 48 ∧ 1 < digN l) then -1 else ((at_ + digN l : Nat) : Int)
theorem bytes_at (s : ByteArray) (j : Nat) (h : j < s.size) : s.data.toList[j]? = some (s[j]'h) := by
  rw [Array.getElem?_toList]
  exact Array.getElem?_eq_getElem h
theorem run_digN {s : ByteArray} {at_ k : Nat} (h1 : at_ ≤ k) (h2 : k ≤ s.size) (hd : ∀ j (h : j < s.size), at_ ≤ j → j < k → isDig (s[j]'h)) (hs : ∀ h : k < s.size, ¬ isDig (s[k]'h)) : digN (s.data.toList.drop at_) = k - at_ := by
  have hl : s.data.toList.length = s.size := rfl
  apply digN_spec
  · rw [List.length_drop, hl]; omega
  · intro j c hc hj
    rw [List.getElem?_drop] at hc
    have hjs : at_ + j < s.size := by omega
    rw [bytes_at s _ hjs] at hc
    injection hc with hc
    subst hc
    exact hd _ hjs (by omega) (by omega)
  · intro c hc
    rw [List.getElem?_drop, show at_ + (k - at_) = k by omega] at hc
    have hks : k < s.size := by
      rw [← hl]; exact (List.getElem?_eq_some_iff.1 hc).1
    rw [bytes_at s _ hks] at hc
    injection hc with hc
    subst hc
    exact hs hks
theorem head_at {s : ByteArray} {at_ : Nat} (h : at_ < s.size) : (s.data.toList.drop at_).headD 0 = s[at_]'h := by
  have h1 := bytes_at s at_ h
  rw [← List.head?_drop] at h1
  rw [List.headD_eq_head?_getD, h1]; rfl
end Go.Proofs.YtmocmkfpblakbaaDoor
