/- The walk of the script's Right. Condition: the lengths. -/
import Derived.Test.YtifdmgloheampaaDoorScriptB
namespace Go.Proofs.YtifdmgloheampaaDoor
open Go.RowKit DiskM ScriptM

set_option maxRecDepth 100000 in
set_option maxHeartbeats 4000000 in
theorem sright_any (x : ActC) (w : World) (hnm : x.nm.size ≤ maxLen) (hkn : x.kn ≤ 9223372036854775807) : Calls Tryd.prog 10 #[.agg x.cells] w fun e w' => e = .returned (.bool (rightB x)) ∧ Below w.heap.size w w' := by
  obtain ⟨k, n, dn, ka, kn, kc, nm, m⟩ := x
  have HNM := Lib.hid hnm
  have hkn : kn ≤ 9223372036854775807 := hkn
  clear hnm
  obtain ⟨R, hR⟩ : ∃ R, rightB ⟨k, n, dn, ka, kn, kc, nm, m⟩ = R := ⟨_, rfl⟩
  rw [hR]
  unfold rightB at hR
  simp only at hR
  have HO := Lib.hid (of_any k)
  unfold hasC at HO
  obtain ⟨is, his⟩ : ∃ b, isK k = b := ⟨_, rfl⟩
  obtain ⟨bn, hbn⟩ : ∃ b, hasN k = b := ⟨_, rfl⟩
  obtain ⟨b5, hb5⟩ : ∃ b, (k == 5) = b := ⟨_, rfl⟩
  obtain ⟨b6, hb6⟩ : ∃ b, (k == 6) = b := ⟨_, rfl⟩
  obtain ⟨b8, hb8⟩ : ∃ b, (k == 8) = b := ⟨_, rfl⟩
  rw [his, hbn, hb5, hb6, hb8] at HO
  rw [his, hbn, hb5, hb6, hb8] at hR
  have HR := Lib.hid hR
  clear hR his hbn hb5 hb6 hb8
  unfold ActC.cells
  go_enter Tryd.func10, Tryd.ntmps10
  go_wp2_with fail
  have hb0 : Below w.heap.size w (w.alloc (.cells #[.int .i64 k, .int .i64 n, .bool dn, .slice ka kn kc, .string nm, .int .u32 (m : Int)] 30)) := (Below.refl _ _).alloc (Nat.le_refl _) _
  have hbx := heap_alloc_new w (.cells #[.int .i64 k, .int .i64 n, .bool dn, .slice ka kn kc, .string nm, .int .u32 (m : Int)] 30)
  have hsz : w.heap.size < (w.alloc (.cells #[.int .i64 k, .int .i64 n, .bool dn, .slice ka kn kc, .string nm, .int .u32 (m : Int)] 30)).heap.size := by simp
  generalize w.alloc (.cells #[.int .i64 k, .int .i64 n, .bool dn, .slice ka kn kc, .string nm, .int .u32 (m : Int)] 30) = W0 at *
  refine (HO.out W0).mono ?_
  rintro e w1 ⟨rfl, hb1⟩
  have hx1 := (hb1.block _ hsz).trans hbx
  have c1 : w1.cell? ⟨w.heap.size, 1, none⟩ = some (.int .i64 n) := cell_of_row _ _ 1 _ _ _ hx1
  have c2 : w1.cell? ⟨w.heap.size, 2, none⟩ = some (.bool dn) := cell_of_row _ _ 2 _ _ _ hx1
  have c3 : w1.cell? ⟨w.heap.size, 3, none⟩ = some (.slice ka kn kc) := cell_of_row _ _ 3 _ _ _ hx1
  have c4 : w1.cell? ⟨w.heap.size, 4, none⟩ = some (.string nm) := cell_of_row _ _ 4 _ _ _ hx1
  have c5 : w1.cell? ⟨w.heap.size, 5, none⟩ = some (.int .u32 (m : Int)) := cell_of_row _ _ 5 _ _ _ hx1
  have HB := Lib.hid (Below.next0 hb0 hb1)
  have hs1 : w.heap.size < w1.heap.size := Nat.lt_of_lt_of_le hsz hb1.size
  clear hb0 hbx hsz hb1 hx1
  go_wp2_with fail
  all_goals try (refine (named_any nm _ HNM.out).mono ?_; rintro e w' ⟨rfl, rfl⟩; go_wp2_with fail)
  all_goals try go_ret
  all_goals try (refine ⟨?_, HB.out.alloc (Nat.le_of_lt (Nat.lt_of_le_of_lt (Nat.le_refl _) hs1)) _⟩)
  all_goals (refine congrArg (fun b => Ending.returned (Value.bool b)) (?_ : _ = R); rw [← HR.out]; clear HR HO HB c1 c2 c3 c4 c5 hs1)
  all_goals (have hz : nm.toList = [] ↔ nm.size = 0 := (by rw [ByteArray.toList_eq]; exact nm_nil nm))
  all_goals first | grind | (simp_all; done)
end Go.Proofs.YtifdmgloheampaaDoor
