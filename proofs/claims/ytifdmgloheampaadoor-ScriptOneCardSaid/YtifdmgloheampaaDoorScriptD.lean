/- The walk of the document's RightAct. Condition: the lengths. -/
import Derived.Test.YtifdmgloheampaaDoorScriptB
namespace Go.Proofs.YtifdmgloheampaaDoor
open Go.RowKit DiskM ScriptM

/-- right, in the model's words, of an act as a value -/
def rightC (x : ActC) : Bool :=
  if x.kind = 1 ∨ x.kind = 2 ∨ x.kind = 3 ∨ x.kind = 7 then decide (0 ≤ x.n) && decide (x.n ≤ 999999) && !x.done && decide (x.kn = 0) && decide (x.nm.size = 0) && decide (x.mask = 0)
  else if x.kind = 4 then decide (x.n = 0) && !x.done && decide (x.kn = 0) && decide (x.nm.size = 0) && decide (x.mask = 0)
  else if x.kind = 5 then decide (0 ≤ x.n) && decide (x.n ≤ 999999) && decide (x.kn = 0) && decide (x.nm.size = 0) && decide (x.mask = 0)
  else if x.kind = 6 then decide (x.n = 0) && !x.done && decide (x.nm.size = 0) && decide (x.mask = 0) && decide (x.kn ≤ 8)
  else if x.kind = 8 then decide (0 ≤ x.n) && decide (x.n ≤ 999999) && !x.done && decide (x.kn = 0) && named x.nm.data.toList && decide (x.mask ≠ 0)
  else false
theorem rightC_right (x : ActC) (keep : List UInt8) (h : keep.length = x.kn) : rightC x = right (x.abs keep) := by
  obtain ⟨k, n, dn, ka, kn, kc, nm, m⟩ := x
  have h : keep.length = kn := h
  have hk : (keep = []) ↔ kn = 0 := by rw [← h]; exact List.length_eq_zero_iff.symm
  have hz := nm_nil nm
  rw [Bool.eq_iff_iff]
  show _ ↔ right ⟨k, n, dn, keep, nm.data.toList, m⟩ = true
  unfold rightC right inN
  dsimp only
  by_cases h1 : k = 1 ∨ k = 2 ∨ k = 3 ∨ k = 7
  · rw [if_pos h1, if_pos h1]; simp [hk, hz]
  rw [if_neg h1, if_neg h1]
  by_cases h2 : k = 4
  · rw [if_pos h2, if_pos h2]; simp [hk, hz]
  rw [if_neg h2, if_neg h2]
  by_cases h3 : k = 5
  · rw [if_pos h3, if_pos h3]; simp [hk, hz]
  rw [if_neg h3, if_neg h3]
  by_cases h4 : k = 6
  · rw [if_pos h4, if_pos h4]; simp [hz, h]
  rw [if_neg h4, if_neg h4]
  by_cases h5 : k = 8
  · rw [if_pos h5, if_pos h5]; simp [hk]
  rw [if_neg h5, if_neg h5]

set_option maxRecDepth 100000 in
set_option maxHeartbeats 4000000 in
theorem rright_any (x : ActC) (w : World) (hnm : x.nm.size ≤ maxLen) (hkn : x.kn ≤ 9223372036854775807) : Calls Tryd.prog 11 #[.agg x.cells] w fun e w' => e = .returned (.bool (rightC x)) ∧ Below w.heap.size w w' := by
  obtain ⟨k, n, dn, ka, kn, kc, nm, m⟩ := x
  have HNM := Lib.hid hnm
  have hkn : kn ≤ 9223372036854775807 := hkn
  clear hnm
  obtain ⟨R, hR⟩ : ∃ R, rightC ⟨k, n, dn, ka, kn, kc, nm, m⟩ = R := ⟨_, rfl⟩
  rw [hR]
  unfold rightC at hR
  simp only at hR
  have HR := Lib.hid hR
  clear hR
  unfold ActC.cells
  go_enter Tryd.func11, Tryd.ntmps11
  go_wp2_with fail
  all_goals try (refine (refname_any nm _ HNM.out).mono ?_; rintro e w' ⟨rfl, rfl⟩; go_wp2_with fail)
  all_goals try go_ret
  all_goals try (refine ⟨?_, (Below.refl _ _).alloc (Nat.le_refl _) _⟩)
  all_goals (refine congrArg (fun b => Ending.returned (Value.bool b)) (?_ : _ = R); rw [← HR.out]; clear HR)
  all_goals (have hz : nm.toList = [] ↔ nm.size = 0 := (by rw [ByteArray.toList_eq]; exact nm_nil nm))
  all_goals first | grind | (simp_all; done)
end Go.Proofs.YtifdmgloheampaaDoor
