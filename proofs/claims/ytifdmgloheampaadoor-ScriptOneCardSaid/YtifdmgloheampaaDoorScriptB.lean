/- An act of a script as it lies in memory; the walks of the script's Right and of the document's. Condition: the lengths. -/
import Derived.Test.YtifdmgloheampaaDoorScriptA
import Derived.Test.YtifdmgloheampaaDoorNamed
namespace Go.Proofs.YtifdmgloheampaaDoor
open Go.RowKit DiskM ScriptM

/-- an act as a value -/
structure ActC where
  kind : Int
  n : Int
  done : Bool
  ka : Option Addr
  kn : Nat
  kc : Nat
  nm : ByteArray
  mask : Nat
def ActC.cells (x : ActC) : Array Value := #[.int .i64 x.kind, .int .i64 x.n, .bool x.done, .slice x.ka x.kn x.kc, .string x.nm, .int .u32 (x.mask : Int)]
def ActC.abs (x : ActC) (keep : List UInt8) : ScriptM.Act := ⟨x.kind, x.n, x.done, keep, x.nm.data.toList, x.mask⟩
/-- right, by what an act of its kind has -/
def rightB (x : ActC) : Bool :=
  !(!isK x.kind || decide (x.n < 0) || decide (999999 < x.n) || (!hasN x.kind && !decide (x.n = 0)) || (x.done && !(x.kind == 5))) &&
  !(decide (8 < x.kn) || (decide (0 < x.kn) && !(x.kind == 6))) && (if x.kind == 8 then named x.nm.data.toList && !decide (x.mask = 0) else decide (x.nm.size = 0) && decide (x.mask = 0))
theorem nm_nil (s : ByteArray) : s.data.toList = [] ↔ s.size = 0 := by
  constructor
  · intro h
    show s.data.size = 0
    rw [← Array.length_toList, h]; rfl
  · intro h
    have h : s.data.size = 0 := h
    exact List.eq_nil_of_length_eq_zero (by rw [Array.length_toList]; exact h)
theorem rightB_right (x : ActC) (keep : List UInt8) (h : keep.length = x.kn) : rightB x = right (x.abs keep) := by
  have hk : (keep = []) ↔ x.kn = 0 := by rw [← h]; exact List.length_eq_zero_iff.symm
  have hz := nm_nil x.nm
  have hnz : named x.nm.data.toList = true → ¬ x.nm.size = 0 := fun hn e => by
    rw [hz.2 e] at hn; revert hn; decide
  by_cases hin : x.kind = 1 ∨ x.kind = 2 ∨ x.kind = 3 ∨ x.kind = 4 ∨ x.kind = 5 ∨ x.kind = 6 ∨ x.kind = 7 ∨ x.kind = 8
  · rcases hin with e | e | e | e | e | e | e | e
    all_goals
      simp only [rightB, right, ActC.abs, inN, e, isK, hasN]
      rw [Bool.eq_iff_iff]
      simp [hk, hz, h]
      try omega
    all_goals
      cases x.done
    all_goals
      try simp
    all_goals
      try grind
  · have e1 : isK x.kind = false := by
      simp only [not_or] at hin
      simp [isK, hin]
    have e2 : right (x.abs keep) = false := by
      unfold right
      simp only [not_or] at hin
      simp [ActC.abs, hin]
    rw [e2]
    unfold rightB
    rw [e1]
    rfl
end Go.Proofs.YtifdmgloheampaaDoor
