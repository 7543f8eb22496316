/- The walk of the document's showAct. Condition: the act is right. -/
import Derived.Test.YtifdmgloheampaaDoorScriptJ
import Derived.Test.YtifdmgloheampaaDoorScriptI
import Derived.Deep.QuietTactic
import Derived.BigQuiet
namespace Go.Proofs.YtifdmgloheampaaDoor
open Go.RowKit NatM DiskM ScriptM

theorem text_eq (s : ByteArray) (l : List UInt8) (h : s.data.toList = l) : Ending.returned (Value.string s) = .returned (sv l) := by
  subst h; rfl
theorem glue_snoc (y : List UInt8) : ∀ (x : List UInt8) (l : List (List UInt8)), glue (x :: (l ++ [y])) = glue (x :: l) ++ 32 :: y
  | x, [] => rfl
  | x, z :: l => by
    show x ++ 32 :: glue (z :: (l ++ [y])) = (x ++ 32 :: glue (z :: l)) ++ 32 :: y
    rw [glue_snoc y z l]; simp
theorem glue_take (keep : List UInt8) (i : Nat) (y : UInt8) (h : keep[i]? = some y) (x : List UInt8) : glue (x :: (keep.take (i + 1)).map fun k => dec k.toNat) = glue (x :: (keep.take i).map fun k => dec k.toNat) ++ 32 :: dec y.toNat := by
  rw [List.take_add_one, h, Option.toList_some, List.map_append, List.map_cons, List.map_nil]
  exact glue_snoc _ _ _
theorem glue_keep_len (l : List UInt8) (h : l.length ≤ 8) : (glue (word 6 :: l.map fun k => dec k.toNat)).length ≤ 1000 := by
  have := glue_len (word 6 :: l.map fun k => dec k.toNat) (fun x hx => by
    rcases List.mem_cons.1 hx with rfl | hx
    · decide
    · obtain ⟨k, _, rfl⟩ := List.mem_map.1 hx
      have h1 := k.toNat_lt
      have h2 := ScriptM.dec_len 3 k.toNat (by omega) (by omega)
      omega)
  simp only [List.length_cons, List.length_map] at this
  omega
set_option linter.unusedSimpArgs false
set_option maxRecDepth 100000 in
set_option maxHeartbeats 4000000 in
theorem rshow_1 (n : Int) (dn : Bool) (ka : Option Addr) (kn kc : Nat) (nm : ByteArray) (m : Nat) (w : World) (h0 : 0 ≤ n) (h1 : n ≤ 999999) :
    Calls Tryd.prog 28 #[.agg #[.int .i64 1, .int .i64 n, .bool dn, .slice ka kn kc, .string nm, .int .u32 (m : Int)]] w fun e w' => e = .returned (sv (word 1 ++ 32 :: dec n.toNat)) ∧ Below w.heap.size w w' := by
  have hD := ScriptM.dec_len 6 n.toNat (by omega) (by omega)
  have HC := Lib.hid (fun w => rdecimal_any n w h0 (by omega))
  obtain ⟨D, hDe⟩ : ∃ D, dec n.toNat = D := ⟨_, rfl⟩
  rw [hDe] at hD HC ⊢
  clear hDe
  go_enter Tryd.func28, Tryd.ntmps28
  go_wp2_with (refine (HC.out _).mono ?_; rintro e w1 ⟨rfl, hb1⟩; have hx1 := (hb1.block w.heap.size (by simp)).trans (heap_alloc_new w (.cells #[.int .i64 1, .int .i64 n, .bool dn, .slice ka kn kc, .string nm, .int .u32 (m : Int)] 30)); have c0 : w1.cell? ⟨w.heap.size, 0, none⟩ = some (.int .i64 1) := cell_of_row _ _ 0 _ _ _ hx1; have c1 : w1.cell? ⟨w.heap.size, 1, none⟩ = some (.int .i64 n) := cell_of_row _ _ 1 _ _ _ hx1; have c2 : w1.cell? ⟨w.heap.size, 2, none⟩ = some (.bool dn) := cell_of_row _ _ 2 _ _ _ hx1; have c3 : w1.cell? ⟨w.heap.size, 3, none⟩ = some (.slice ka kn kc) := cell_of_row _ _ 3 _ _ _ hx1; have c4 : w1.cell? ⟨w.heap.size, 4, none⟩ = some (.string nm) := cell_of_row _ _ 4 _ _ _ hx1; have c5 : w1.cell? ⟨w.heap.size, 5, none⟩ = some (.int .u32 (m : Int)) := cell_of_row _ _ 5 _ _ _ hx1; have HB := Lib.hid (((Below.refl w.heap.size w).alloc (Nat.le_refl _) (.cells #[.int .i64 1, .int .i64 n, .bool dn, .slice ka kn kc, .string nm, .int .u32 (m : Int)] 30)).trans (hb1.mono (by simp))); have HX := Lib.hid hx1; clear hb1 hx1)
  go_ret
  exact ⟨text_eq _ _ (by simp [ByteArray.data_append, word, doneW, lostW]), HB.out⟩
set_option maxRecDepth 100000 in
set_option maxHeartbeats 4000000 in
theorem rshow_2 (n : Int) (dn : Bool) (ka : Option Addr) (kn kc : Nat) (nm : ByteArray) (m : Nat) (w : World) (h0 : 0 ≤ n) (h1 : n ≤ 999999) :
    Calls Tryd.prog 28 #[.agg #[.int .i64 2, .int .i64 n, .bool dn, .slice ka kn kc, .string nm, .int .u32 (m : Int)]] w fun e w' => e = .returned (sv (word 2 ++ 32 :: dec n.toNat)) ∧ Below w.heap.size w w' := by
  have hD := ScriptM.dec_len 6 n.toNat (by omega) (by omega)
  have HC := Lib.hid (fun w => rdecimal_any n w h0 (by omega))
  obtain ⟨D, hDe⟩ : ∃ D, dec n.toNat = D := ⟨_, rfl⟩
  rw [hDe] at hD HC ⊢
  clear hDe
  go_enter Tryd.func28, Tryd.ntmps28
  go_wp2_with (refine (HC.out _).mono ?_; rintro e w1 ⟨rfl, hb1⟩; have hx1 := (hb1.block w.heap.size (by simp)).trans (heap_alloc_new w (.cells #[.int .i64 2, .int .i64 n, .bool dn, .slice ka kn kc, .string nm, .int .u32 (m : Int)] 30)); have c0 : w1.cell? ⟨w.heap.size, 0, none⟩ = some (.int .i64 2) := cell_of_row _ _ 0 _ _ _ hx1; have c1 : w1.cell? ⟨w.heap.size, 1, none⟩ = some (.int .i64 n) := cell_of_row _ _ 1 _ _ _ hx1; have c2 : w1.cell? ⟨w.heap.size, 2, none⟩ = some (.bool dn) := cell_of_row _ _ 2 _ _ _ hx1; have c3 : w1.cell? ⟨w.heap.size, 3, none⟩ = some (.slice ka kn kc) := cell_of_row _ _ 3 _ _ _ hx1; have c4 : w1.cell? ⟨w.heap.size, 4, none⟩ = some (.string nm) := cell_of_row _ _ 4 _ _ _ hx1; have c5 : w1.cell? ⟨w.heap.size, 5, none⟩ = some (.int .u32 (m : Int)) := cell_of_row _ _ 5 _ _ _ hx1; have HB := Lib.hid (((Below.refl w.heap.size w).alloc (Nat.le_refl _) (.cells #[.int .i64 2, .int .i64 n, .bool dn, .slice ka kn kc, .string nm, .int .u32 (m : Int)] 30)).trans (hb1.mono (by simp))); have HX := Lib.hid hx1; clear hb1 hx1)
  go_ret
  exact ⟨text_eq _ _ (by simp [ByteArray.data_append, word, doneW, lostW]), HB.out⟩
set_option maxRecDepth 100000 in
set_option maxHeartbeats 4000000 in
theorem rshow_3 (n : Int) (dn : Bool) (ka : Option Addr) (kn kc : Nat) (nm : ByteArray) (m : Nat) (w : World) (h0 : 0 ≤ n) (h1 : n ≤ 999999) :
    Calls Tryd.prog 28 #[.agg #[.int .i64 3, .int .i64 n, .bool dn, .slice ka kn kc, .string nm, .int .u32 (m : Int)]] w fun e w' => e = .returned (sv (word 3 ++ 32 :: dec n.toNat)) ∧ Below w.heap.size w w' := by
  have hD := ScriptM.dec_len 6 n.toNat (by omega) (by omega)
  have HC := Lib.hid (fun w => rdecimal_any n w h0 (by omega))
  obtain ⟨D, hDe⟩ : ∃ D, dec n.toNat = D := ⟨_, rfl⟩
  rw [hDe] at hD HC ⊢
  clear hDe
  go_enter Tryd.func28, Tryd.ntmps28
  go_wp2_with (refine (HC.out _).mono ?_; rintro e w1 ⟨rfl, hb1⟩; have hx1 := (hb1.block w.heap.size (by simp)).trans (heap_alloc_new w (.cells #[.int .i64 3, .int .i64 n, .bool dn, .slice ka kn kc, .string nm, .int .u32 (m : Int)] 30)); have c0 : w1.cell? ⟨w.heap.size, 0, none⟩ = some (.int .i64 3) := cell_of_row _ _ 0 _ _ _ hx1; have c1 : w1.cell? ⟨w.heap.size, 1, none⟩ = some (.int .i64 n) := cell_of_row _ _ 1 _ _ _ hx1; have c2 : w1.cell? ⟨w.heap.size, 2, none⟩ = some (.bool dn) := cell_of_row _ _ 2 _ _ _ hx1; have c3 : w1.cell? ⟨w.heap.size, 3, none⟩ = some (.slice ka kn kc) := cell_of_row _ _ 3 _ _ _ hx1; have c4 : w1.cell? ⟨w.heap.size, 4, none⟩ = some (.string nm) := cell_of_row _ _ 4 _ _ _ hx1; have c5 : w1.cell? ⟨w.heap.size, 5, none⟩ = some (.int .u32 (m : Int)) := cell_of_row _ _ 5 _ _ _ hx1; have HB := Lib.hid (((Below.refl w.heap.size w).alloc (Nat.le_refl _) (.cells #[.int .i64 3, .int .i64 n, .bool dn, .slice ka kn kc, .string nm, .int .u32 (m : Int)] 30)).trans (hb1.mono (by simp))); have HX := Lib.hid hx1; clear hb1 hx1)
  go_ret
  exact ⟨text_eq _ _ (by simp [ByteArray.data_append, word, doneW, lostW]), HB.out⟩
set_option maxRecDepth 100000 in
set_option maxHeartbeats 4000000 in
theorem rshow_7 (n : Int) (dn : Bool) (ka : Option Addr) (kn kc : Nat) (nm : ByteArray) (m : Nat) (w : World) (h0 : 0 ≤ n) (h1 : n ≤ 999999) :
    Calls Tryd.prog 28 #[.agg #[.int .i64 7, .int .i64 n, .bool dn, .slice ka kn kc, .string nm, .int .u32 (m : Int)]] w fun e w' => e = .returned (sv (word 7 ++ 32 :: dec n.toNat)) ∧ Below w.heap.size w w' := by
  have hD := ScriptM.dec_len 6 n.toNat (by omega) (by omega)
  have HC := Lib.hid (fun w => rdecimal_any n w h0 (by omega))
  obtain ⟨D, hDe⟩ : ∃ D, dec n.toNat = D := ⟨_, rfl⟩
  rw [hDe] at hD HC ⊢
  clear hDe
  go_enter Tryd.func28, Tryd.ntmps28
  go_wp2_with (refine (HC.out _).mono ?_; rintro e w1 ⟨rfl, hb1⟩; have hx1 := (hb1.block w.heap.size (by simp)).trans (heap_alloc_new w (.cells #[.int .i64 7, .int .i64 n, .bool dn, .slice ka kn kc, .string nm, .int .u32 (m : Int)] 30)); have c0 : w1.cell? ⟨w.heap.size, 0, none⟩ = some (.int .i64 7) := cell_of_row _ _ 0 _ _ _ hx1; have c1 : w1.cell? ⟨w.heap.size, 1, none⟩ = some (.int .i64 n) := cell_of_row _ _ 1 _ _ _ hx1; have c2 : w1.cell? ⟨w.heap.size, 2, none⟩ = some (.bool dn) := cell_of_row _ _ 2 _ _ _ hx1; have c3 : w1.cell? ⟨w.heap.size, 3, none⟩ = some (.slice ka kn kc) := cell_of_row _ _ 3 _ _ _ hx1; have c4 : w1.cell? ⟨w.heap.size, 4, none⟩ = some (.string nm) := cell_of_row _ _ 4 _ _ _ hx1; have c5 : w1.cell? ⟨w.heap.size, 5, none⟩ = some (.int .u32 (m : Int)) := cell_of_row _ _ 5 _ _ _ hx1; have HB := Lib.hid (((Below.refl w.heap.size w).alloc (Nat.le_refl _) (.cells #[.int .i64 7, .int .i64 n, .bool dn, .slice ka kn kc, .string nm, .int .u32 (m : Int)] 30)).trans (hb1.mono (by simp))); have HX := Lib.hid hx1; clear hb1 hx1)
  go_ret
  exact ⟨text_eq _ _ (by simp [ByteArray.data_append, word, doneW, lostW]), HB.out⟩
set_option maxRecDepth 100000 in
set_option maxHeartbeats 4000000 in
theorem rshow_4 (n : Int) (dn : Bool) (ka : Option Addr) (kn kc : Nat) (nm : ByteArray) (m : Nat) (w : World) (h0 : 0 ≤ n) (h1 : n ≤ 999999) :
    Calls Tryd.prog 28 #[.agg #[.int .i64 4, .int .i64 n, .bool dn, .slice ka kn kc, .string nm, .int .u32 (m : Int)]] w fun e w' => e = .returned (sv (word 4)) ∧ Below w.heap.size w w' := by
  have hD := ScriptM.dec_len 6 n.toNat (by omega) (by omega)
  have HC := Lib.hid (fun w => rdecimal_any n w h0 (by omega))
  obtain ⟨D, hDe⟩ : ∃ D, dec n.toNat = D := ⟨_, rfl⟩
  rw [hDe] at hD HC
  clear hDe
  go_enter Tryd.func28, Tryd.ntmps28
  go_wp2_with (refine (HC.out _).mono ?_; rintro e w1 ⟨rfl, hb1⟩; have hx1 := (hb1.block w.heap.size (by simp)).trans (heap_alloc_new w (.cells #[.int .i64 4, .int .i64 n, .bool dn, .slice ka kn kc, .string nm, .int .u32 (m : Int)] 30)); have c0 : w1.cell? ⟨w.heap.size, 0, none⟩ = some (.int .i64 4) := cell_of_row _ _ 0 _ _ _ hx1; have c1 : w1.cell? ⟨w.heap.size, 1, none⟩ = some (.int .i64 n) := cell_of_row _ _ 1 _ _ _ hx1; have c2 : w1.cell? ⟨w.heap.size, 2, none⟩ = some (.bool dn) := cell_of_row _ _ 2 _ _ _ hx1; have c3 : w1.cell? ⟨w.heap.size, 3, none⟩ = some (.slice ka kn kc) := cell_of_row _ _ 3 _ _ _ hx1; have c4 : w1.cell? ⟨w.heap.size, 4, none⟩ = some (.string nm) := cell_of_row _ _ 4 _ _ _ hx1; have c5 : w1.cell? ⟨w.heap.size, 5, none⟩ = some (.int .u32 (m : Int)) := cell_of_row _ _ 5 _ _ _ hx1; have HB := Lib.hid (((Below.refl w.heap.size w).alloc (Nat.le_refl _) (.cells #[.int .i64 4, .int .i64 n, .bool dn, .slice ka kn kc, .string nm, .int .u32 (m : Int)] 30)).trans (hb1.mono (by simp))); have HX := Lib.hid hx1; clear hb1 hx1)
  go_ret
  exact ⟨text_eq _ _ (by simp [ByteArray.data_append, word, doneW, lostW]), HB.out⟩
set_option maxRecDepth 100000 in
set_option maxHeartbeats 4000000 in
theorem rshow_5t (n : Int) (ka : Option Addr) (kn kc : Nat) (nm : ByteArray) (m : Nat) (w : World) (h0 : 0 ≤ n) (h1 : n ≤ 999999) :
    Calls Tryd.prog 28 #[.agg #[.int .i64 5, .int .i64 n, .bool true, .slice ka kn kc, .string nm, .int .u32 (m : Int)]] w fun e w' => e = .returned (sv (word 5 ++ 32 :: dec n.toNat ++ 32 :: doneW)) ∧ Below w.heap.size w w' := by
  have hD := ScriptM.dec_len 6 n.toNat (by omega) (by omega)
  have HC := Lib.hid (fun w => rdecimal_any n w h0 (by omega))
  obtain ⟨D, hDe⟩ : ∃ D, dec n.toNat = D := ⟨_, rfl⟩
  rw [hDe] at hD HC ⊢
  clear hDe
  go_enter Tryd.func28, Tryd.ntmps28
  go_wp2_with (refine (HC.out _).mono ?_; rintro e w1 ⟨rfl, hb1⟩; have hx1 := (hb1.block w.heap.size (by simp)).trans (heap_alloc_new w (.cells #[.int .i64 5, .int .i64 n, .bool true, .slice ka kn kc, .string nm, .int .u32 (m : Int)] 30)); have c0 : w1.cell? ⟨w.heap.size, 0, none⟩ = some (.int .i64 5) := cell_of_row _ _ 0 _ _ _ hx1; have c1 : w1.cell? ⟨w.heap.size, 1, none⟩ = some (.int .i64 n) := cell_of_row _ _ 1 _ _ _ hx1; have c2 : w1.cell? ⟨w.heap.size, 2, none⟩ = some (.bool true) := cell_of_row _ _ 2 _ _ _ hx1; have c3 : w1.cell? ⟨w.heap.size, 3, none⟩ = some (.slice ka kn kc) := cell_of_row _ _ 3 _ _ _ hx1; have c4 : w1.cell? ⟨w.heap.size, 4, none⟩ = some (.string nm) := cell_of_row _ _ 4 _ _ _ hx1; have c5 : w1.cell? ⟨w.heap.size, 5, none⟩ = some (.int .u32 (m : Int)) := cell_of_row _ _ 5 _ _ _ hx1; have HB := Lib.hid (((Below.refl w.heap.size w).alloc (Nat.le_refl _) (.cells #[.int .i64 5, .int .i64 n, .bool true, .slice ka kn kc, .string nm, .int .u32 (m : Int)] 30)).trans (hb1.mono (by simp))); have HX := Lib.hid hx1; clear hb1 hx1)
  go_ret
  exact ⟨text_eq _ _ (by simp [ByteArray.data_append, word, doneW, lostW]), HB.out⟩
set_option maxRecDepth 100000 in
set_option maxHeartbeats 4000000 in
theorem rshow_5f (n : Int) (ka : Option Addr) (kn kc : Nat) (nm : ByteArray) (m : Nat) (w : World) (h0 : 0 ≤ n) (h1 : n ≤ 999999) :
    Calls Tryd.prog 28 #[.agg #[.int .i64 5, .int .i64 n, .bool false, .slice ka kn kc, .string nm, .int .u32 (m : Int)]] w fun e w' => e = .returned (sv (word 5 ++ 32 :: dec n.toNat ++ 32 :: lostW)) ∧ Below w.heap.size w w' := by
  have hD := ScriptM.dec_len 6 n.toNat (by omega) (by omega)
  have HC := Lib.hid (fun w => rdecimal_any n w h0 (by omega))
  obtain ⟨D, hDe⟩ : ∃ D, dec n.toNat = D := ⟨_, rfl⟩
  rw [hDe] at hD HC ⊢
  clear hDe
  go_enter Tryd.func28, Tryd.ntmps28
  go_wp2_with (refine (HC.out _).mono ?_; rintro e w1 ⟨rfl, hb1⟩; have hx1 := (hb1.block w.heap.size (by simp)).trans (heap_alloc_new w (.cells #[.int .i64 5, .int .i64 n, .bool false, .slice ka kn kc, .string nm, .int .u32 (m : Int)] 30)); have c0 : w1.cell? ⟨w.heap.size, 0, none⟩ = some (.int .i64 5) := cell_of_row _ _ 0 _ _ _ hx1; have c1 : w1.cell? ⟨w.heap.size, 1, none⟩ = some (.int .i64 n) := cell_of_row _ _ 1 _ _ _ hx1; have c2 : w1.cell? ⟨w.heap.size, 2, none⟩ = some (.bool false) := cell_of_row _ _ 2 _ _ _ hx1; have c3 : w1.cell? ⟨w.heap.size, 3, none⟩ = some (.slice ka kn kc) := cell_of_row _ _ 3 _ _ _ hx1; have c4 : w1.cell? ⟨w.heap.size, 4, none⟩ = some (.string nm) := cell_of_row _ _ 4 _ _ _ hx1; have c5 : w1.cell? ⟨w.heap.size, 5, none⟩ = some (.int .u32 (m : Int)) := cell_of_row _ _ 5 _ _ _ hx1; have HB := Lib.hid (((Below.refl w.heap.size w).alloc (Nat.le_refl _) (.cells #[.int .i64 5, .int .i64 n, .bool false, .slice ka kn kc, .string nm, .int .u32 (m : Int)] 30)).trans (hb1.mono (by simp))); have HX := Lib.hid hx1; clear hb1 hx1)
  go_ret
  exact ⟨text_eq _ _ (by simp [ByteArray.data_append, word, doneW, lostW]), HB.out⟩
set_option maxRecDepth 100000 in
set_option maxHeartbeats 4000000 in
theorem rshow_6 (n : Int) (dn : Bool) (ka : Option Addr) (kn kc : Nat) (nm : ByteArray) (m : Nat) (w : World) (h0 : 0 ≤ n) (h1 : n ≤ 999999) (keep : List UInt8) (hkl : keep.length = kn) (h8 : keep.length ≤ 8) (hrd : Rd w w.heap.size ka keep) :
    Calls Tryd.prog 28 #[.agg #[.int .i64 6, .int .i64 n, .bool dn, .slice ka kn kc, .string nm, .int .u32 (m : Int)]] w fun e w' => e = .returned (sv (glue (word 6 :: keep.map fun k => dec k.toNat))) ∧ Below w.heap.size w w' := by
  have hD := ScriptM.dec_len 6 n.toNat (by omega) (by omega)
  have HC := Lib.hid (fun w => rdecimal_any n w h0 (by omega))
  obtain ⟨D, hDe⟩ : ∃ D, dec n.toNat = D := ⟨_, rfl⟩
  rw [hDe] at hD HC
  have h8 : keep.length ≤ 8 := h8
  have HRD := Lib.hid hrd
  obtain rfl : keep.length = kn := hkl
  clear hrd
  clear hDe
  go_enter Tryd.func28, Tryd.ntmps28
  go_wp2_with (refine (HC.out _).mono ?_; rintro e w1 ⟨rfl, hb1⟩; have hx1 := (hb1.block w.heap.size (by simp)).trans (heap_alloc_new w (.cells #[.int .i64 6, .int .i64 n, .bool dn, .slice ka keep.length kc, .string nm, .int .u32 (m : Int)] 30)); have c0 : w1.cell? ⟨w.heap.size, 0, none⟩ = some (.int .i64 6) := cell_of_row _ _ 0 _ _ _ hx1; have c1 : w1.cell? ⟨w.heap.size, 1, none⟩ = some (.int .i64 n) := cell_of_row _ _ 1 _ _ _ hx1; have c2 : w1.cell? ⟨w.heap.size, 2, none⟩ = some (.bool dn) := cell_of_row _ _ 2 _ _ _ hx1; have c3 : w1.cell? ⟨w.heap.size, 3, none⟩ = some (.slice ka keep.length kc) := cell_of_row _ _ 3 _ _ _ hx1; have c4 : w1.cell? ⟨w.heap.size, 4, none⟩ = some (.string nm) := cell_of_row _ _ 4 _ _ _ hx1; have c5 : w1.cell? ⟨w.heap.size, 5, none⟩ = some (.int .u32 (m : Int)) := cell_of_row _ _ 5 _ _ _ hx1; have HB := Lib.hid (((Below.refl w.heap.size w).alloc (Nat.le_refl _) (.cells #[.int .i64 6, .int .i64 n, .bool dn, .slice ka keep.length kc, .string nm, .int .u32 (m : Int)] 30)).trans (hb1.mono (by simp))); have HX := Lib.hid hx1; clear hb1 hx1)
  have HBX := HX
  clear c0 c1 c2 c3 c4 c5 HX
  go_loopw [4, 5] (fun t i wr => ∃ (j : Nat), j ≤ keep.length ∧ i = .int .i64 (j : Int) ∧ t = sv (glue (word 6 :: (keep.take j).map fun k => dec k.toNat)) ∧ wr.heap[w.heap.size]? = some (.cells #[.int .i64 6, .int .i64 n, .bool dn, .slice ka keep.length kc, .string nm, .int .u32 (m : Int)] 30 (0, 0)) ∧ Below w.heap.size w wr) (fun _ i _ => keep.length - (intOf i).toNat)
  case atStart => exact ⟨0, Nat.zero_le _, rfl, rfl, HBX.out, HB.out⟩
  case round =>
    obtain ⟨j, hj, rfl, rfl, hx, hb⟩ := hrel
    have c3 : wr.cell? ⟨w.heap.size, 3, none⟩ = some (.slice ka keep.length kc) := cell_of_row _ _ 3 _ _ _ hx
    have hgl := glue_keep_len (keep.take j) (by rw [List.length_take]; omega)
    have HH := Lib.hid (And.intro hx hb)
    by_cases hlt : j < keep.length
    · obtain ⟨b, o, y, rfl, hbk, hy, hcy⟩ := HRD.out.at_ hlt
      have hcy' : wr.cell? ⟨b, o + j, none⟩ = some (.int .u8 (y.toNat : Int)) := (hb.cell (by exact hbk)).trans hcy
      have HT := Lib.hid (glue_take keep j y hy (word 6))
      have hy1 := y.toNat_lt
      have hyl := ScriptM.dec_len 3 y.toNat (by omega) (by omega)
      have HY := Lib.hid (fun w => rdecimal_any (y.toNat : Int) w (by omega) (by omega))
      rw [Int.toNat_natCast] at HY
      obtain ⟨Y, hYe⟩ : ∃ Y, dec y.toNat = Y := ⟨_, rfl⟩
      obtain ⟨G, hGe⟩ : ∃ G, glue (word 6 :: (keep.take j).map fun k => dec k.toNat) = G := ⟨_, rfl⟩
      rw [hYe] at HY HT hyl
      rw [hGe] at HT hgl ⊢
      clear hcy hy hYe hGe hx hb
      go_wp2_with (refine (HY.out _).mono ?_; rintro e w2 ⟨rfl, hb2⟩; have HB2 := Lib.hid (And.intro ((hb2.block _ (Array.getElem?_eq_some_iff.1 HH.out.1).1).trans HH.out.1) (Below.next0 HH.out.2 hb2)); clear hb2 c3 hcy')
      go_roundw
      case rel =>
        refine ⟨j + 1, by omega, by go_num, ?_, HB2.out.1, HB2.out.2⟩
        rw [HT.out]
        exact congrArg Value.string (ByteArray.ext (by simp [ByteArray.data_append]))
      case measure => simp [intOf]; omega
    · obtain rfl : j = keep.length := by omega
      rw [List.take_length]
      clear hx hb
      go_wp2_with fail
      go_ret
      exact ⟨rfl, HH.out.2⟩
set_option maxRecDepth 100000 in
set_option maxHeartbeats 4000000 in
theorem rshow_8 (n : Int) (dn : Bool) (ka : Option Addr) (kn kc : Nat) (nm : ByteArray) (m : Nat) (w : World) (h0 : 0 ≤ n) (h1 : n ≤ 999999) (hnm : nm.size ≤ 16) (hm : m < 4294967296) (hm1 : 1 ≤ m) :
    Calls Tryd.prog 28 #[.agg #[.int .i64 8, .int .i64 n, .bool dn, .slice ka kn kc, .string nm, .int .u32 (m : Int)]] w fun e w' => e = .returned (sv (word 8 ++ 32 :: nm.data.toList ++ 32 :: dec n.toNat ++ 32 :: hexD m)) ∧ Below w.heap.size w w' := by
  have hD := ScriptM.dec_len 6 n.toNat (by omega) (by omega)
  have HC := Lib.hid (fun w => rdecimal_any n w h0 (by omega))
  obtain ⟨D, hDe⟩ : ∃ D, dec n.toNat = D := ⟨_, rfl⟩
  rw [hDe] at hD HC ⊢
  have hml := hexD_len 8 m (by omega) (by omega)
  have HM := Lib.hid (fun w => rhex_any m w hm hm1)
  obtain ⟨M, hMe⟩ : ∃ M, hexD m = M := ⟨_, rfl⟩
  rw [hMe] at hml HM ⊢
  clear hMe
  clear hDe
  go_enter Tryd.func28, Tryd.ntmps28
  go_wp2_with (refine (HC.out _).mono ?_; rintro e w1 ⟨rfl, hb1⟩; have hx1 := (hb1.block w.heap.size (by simp)).trans (heap_alloc_new w (.cells #[.int .i64 8, .int .i64 n, .bool dn, .slice ka kn kc, .string nm, .int .u32 (m : Int)] 30)); have c0 : w1.cell? ⟨w.heap.size, 0, none⟩ = some (.int .i64 8) := cell_of_row _ _ 0 _ _ _ hx1; have c1 : w1.cell? ⟨w.heap.size, 1, none⟩ = some (.int .i64 n) := cell_of_row _ _ 1 _ _ _ hx1; have c2 : w1.cell? ⟨w.heap.size, 2, none⟩ = some (.bool dn) := cell_of_row _ _ 2 _ _ _ hx1; have c3 : w1.cell? ⟨w.heap.size, 3, none⟩ = some (.slice ka kn kc) := cell_of_row _ _ 3 _ _ _ hx1; have c4 : w1.cell? ⟨w.heap.size, 4, none⟩ = some (.string nm) := cell_of_row _ _ 4 _ _ _ hx1; have c5 : w1.cell? ⟨w.heap.size, 5, none⟩ = some (.int .u32 (m : Int)) := cell_of_row _ _ 5 _ _ _ hx1; have HB := Lib.hid (((Below.refl w.heap.size w).alloc (Nat.le_refl _) (.cells #[.int .i64 8, .int .i64 n, .bool dn, .slice ka kn kc, .string nm, .int .u32 (m : Int)] 30)).trans (hb1.mono (by simp))); have HX := Lib.hid hx1; clear hb1 hx1)
  go_quiet ((refine Calls.quiet_of_same ((HM.out _).mono fun e w' ⟨he, hw⟩ => ⟨he, hw.symm⟩)))
  go_wp2_with fail
  go_ret
  exact ⟨text_eq _ _ (by simp [ByteArray.data_append, word]), below_drewN HB.out _⟩
end Go.Proofs.YtifdmgloheampaaDoor
