/- The walks of the script's of and word. No condition. -/
import Derived.Test.YtifdmgloheampaaDoorScriptM
import Derived.Test.YtifdmgloheampaaDoorOwn
namespace Go.Proofs.YtifdmgloheampaaDoor
open Go.RowKit DiskM ScriptM

namespace ScriptM
def isK (k : Int) : Bool := k == 1 || k == 2 || k == 3 || k == 4 || k == 5 || k == 6 || k == 7 || k == 8
def hasC (k : Int) : Array Value := #[.bool (hasN k), .bool (k == 5), .bool (k == 6), .bool (k == 8)]
end ScriptM
set_option maxRecDepth 100000 in
theorem of_any (k : Int) (w : World) : Calls Tryd.prog 20 #[.int .i64 k] w fun e w' => e = .returned (.tuple #[.agg (hasC k), .bool (isK k)]) ∧ Below w.heap.size w w' := by
  by_cases h : k = 1 ∨ k = 2 ∨ k = 3 ∨ k = 4 ∨ k = 5 ∨ k = 6 ∨ k = 7 ∨ k = 8
  · rcases h with rfl | rfl | rfl | rfl | rfl | rfl | rfl | rfl
    all_goals
      go_enter Tryd.func20, Tryd.ntmps20
      go_wp2_with fail
      refine ⟨rfl, _, ?_, rfl, (Below.refl _ _).alloc (Nat.le_refl _) _⟩
      simp [results, go_sem]
      exact ⟨rfl, rfl⟩
  · have h1 : (k == 1) = false := by rw [beq_eq_false_iff_ne]; omega
    have h2 : (k == 2) = false := by rw [beq_eq_false_iff_ne]; omega
    have h3 : (k == 3) = false := by rw [beq_eq_false_iff_ne]; omega
    have h4 : (k == 4) = false := by rw [beq_eq_false_iff_ne]; omega
    have h5 : (k == 5) = false := by rw [beq_eq_false_iff_ne]; omega
    have h6 : (k == 6) = false := by rw [beq_eq_false_iff_ne]; omega
    have h7 : (k == 7) = false := by rw [beq_eq_false_iff_ne]; omega
    have h8 : (k == 8) = false := by rw [beq_eq_false_iff_ne]; omega
    have HC := Lib.hid (show hasC k = #[.bool false, .bool false, .bool false, .bool false] ∧ isK k = false by simp [hasC, isK, hasN, h1, h2, h3, h4, h5, h6, h7, h8])
    have g1 : ¬ k = 1 := by omega
    have g2 : ¬ k = 2 := by omega
    have g3 : ¬ k = 3 := by omega
    have g4 : ¬ k = 4 := by omega
    have g5 : ¬ k = 5 := by omega
    have g6 : ¬ k = 6 := by omega
    have g7 : ¬ k = 7 := by omega
    have g8 : ¬ k = 8 := by omega
    clear h
    go_enter Tryd.func20, Tryd.ntmps20
    go_wp2_with fail
    rw [HC.out.1, HC.out.2]
    refine ⟨rfl, _, ?_, rfl, (Below.refl _ _).alloc (Nat.le_refl _) _⟩
    simp [results, go_sem]
set_option maxRecDepth 100000 in
theorem word_any (k : Int) (w : World) : Calls Tryd.prog 35 #[.int .i64 k] w fun e w' => e = .returned (.string ⟨(word k).toArray⟩) ∧ w = w' := by
  by_cases h : k = 1 ∨ k = 2 ∨ k = 3 ∨ k = 4 ∨ k = 5 ∨ k = 6 ∨ k = 7
  · rcases h with rfl | rfl | rfl | rfl | rfl | rfl | rfl
    all_goals
      go_enter Tryd.func35, Tryd.ntmps35
      go_wp2_with fail
      go_ret
      exact ⟨rfl, rfl⟩
  · have h1 : (k == 1) = false := by rw [beq_eq_false_iff_ne]; omega
    have h2 : (k == 2) = false := by rw [beq_eq_false_iff_ne]; omega
    have h3 : (k == 3) = false := by rw [beq_eq_false_iff_ne]; omega
    have h4 : (k == 4) = false := by rw [beq_eq_false_iff_ne]; omega
    have h5 : (k == 5) = false := by rw [beq_eq_false_iff_ne]; omega
    have h6 : (k == 6) = false := by rw [beq_eq_false_iff_ne]; omega
    have h7 : (k == 7) = false := by rw [beq_eq_false_iff_ne]; omega
    have g1 : ¬ k = 1 := by omega
    have g2 : ¬ k = 2 := by omega
    have g3 : ¬ k = 3 := by omega
    have g4 : ¬ k = 4 := by omega
    have g5 : ¬ k = 5 := by omega
    have g6 : ¬ k = 6 := by omega
    have g7 : ¬ k = 7 := by omega
    have HC := Lib.hid (show word k = [102, 108, 105, 112] by simp [word, g1, g2, g3, g4, g5, g6, g7])
    clear h
    go_enter Tryd.func35, Tryd.ntmps35
    go_wp2_with fail
    go_ret
    rw [HC.out]
    exact ⟨rfl, rfl⟩
end Go.Proofs.YtifdmgloheampaaDoor
