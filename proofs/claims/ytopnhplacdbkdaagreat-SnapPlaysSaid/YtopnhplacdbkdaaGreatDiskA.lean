/- The walks of the disk's held, New, has, goes, Room, Down, Sure, Grow, Arm. Condition: the disk lies behind the pointer. -/
/- The walk of the disk's Named. Condition: the text has a length. -/
import Derived.Test.YtopnhplacdbkdaaGreatDisk
import Derived.Carry
namespace Go.Proofs.YtopnhplacdbkdaaGreat
open Go.RowKit DiskM

theorem field_bytes (a : Option Addr) (n c : Nat) (s : Int) (w : World) : (Instr.field 70 (.agg #[.slice a n c, .int .i64 s]) 0).run Tryz.prog w = .ok (.slice a n c) w := by kernel_rfl
theorem field_sure (a : Option Addr) (n c : Nat) (s : Int) (w : World) : (Instr.field 70 (.agg #[.slice a n c, .int .i64 s]) 1).run Tryz.prog w = .ok (.int .i64 s) w := by kernel_rfl
theorem held_any (n : Int) (w : World) : Calls Tryz.prog 16 #[.int .i64 n] w fun e w' => e = .returned (.int .i64 (held n : Nat)) ∧ w = w' := by
  have key : ((held n : Nat) : Int) = max (min n 16777216) 0 := by unfold held; omega
  by_cases h1 : n ≤ 16777216
  · by_cases h2 : 0 ≤ n
    · have E := Lib.hid (show ((held n : Nat) : Int) = n by omega)
      clear key
      go_enter Tryz.func16, Tryz.ntmps16
      go_wp2_with fail
      go_ret
      exact ⟨by rw [E.out]; rfl, rfl⟩
    · have E := Lib.hid (show ((held n : Nat) : Int) = 0 by omega)
      clear key
      go_enter Tryz.func16, Tryz.ntmps16
      go_wp2_with fail
      go_ret
      exact ⟨by rw [E.out]; rfl, rfl⟩
  · have E := Lib.hid (show ((held n : Nat) : Int) = 16777216 by omega)
    clear key
    go_enter Tryz.func16, Tryz.ntmps16
    go_wp2_with fail
    go_ret
    exact ⟨by rw [E.out]; rfl, rfl⟩

/-- what disk.New hands back -/
def NewIs (w : World) (d : DS) (e : Ending) (w' : World) : Prop :=
  ∃ p fp, e = .returned (.pointer (some ⟨p, 0, none⟩)) ∧ DiskAt w' fp p d ∧ (∀ k, fp k → w.heap.size ≤ k) ∧ Below w.heap.size w w'
theorem new_any (room : Int) (w : World) : Calls Tryz.prog 6 #[.int .i64 room] w (NewIs w (fresh room)) := by
  have hmm := @run_makeMap Tryz.prog
  have hB : Below w.heap.size w ((w.alloc (.map #[] 0)).alloc (.cells (diskCells w.heap.size (fresh room)) 47)) := ((Below.refl _ _).alloc (Nat.le_refl _) _).alloc (by simp) _
  have hraw : DiskRaw ((w.alloc (.map #[] 0)).alloc (.cells (diskCells w.heap.size (fresh room)) 47)) (fun k => w.heap.size ≤ k ∧ k < w.heap.size + 2) (w.heap.size + 1) w.heap.size [] (fresh room) := by
    refine ⟨?_, ?_, by omega, by omega, by simp, by simp, rfl, fun k hk => by simp; omega, fresh_ok room⟩
    · have := heap_alloc_new (w.alloc (.map #[] 0)) (.cells (diskCells w.heap.size (fresh room)) 47)
      rwa [World.size_alloc] at this
    · exact (MapAt.made w).keep (Below.heap_alloc _ _ _ (by simp))
  have HB := Lib.hid hB
  have HR := Lib.hid hraw
  clear hB hraw
  go_enter Tryz.func6, Tryz.ntmps6
  go_wp2_with (go_at_call 16; refine (held_any _ _).mono ?_; rintro e w1 ⟨rfl, rfl⟩)
  go_ret
  exact ⟨w.heap.size + 1, _, rfl, ⟨_, _, HR.out⟩, fun k hk => hk.1, HB.out⟩

section
variable {w : World} {fp : Nat → Prop} {p : Nat} {d : DS}
theorem room_any (h : DiskAt w fp p d) : Calls Tryz.prog 33 #[.pointer (some ⟨p, 0, none⟩)] w fun e w' => e = .returned (.int .i64 (d.room : Int)) ∧ w = w' := by
  obtain ⟨mb, fv, h⟩ := h
  have hc := h.cell.2.1
  clear h
  go_enter Tryz.func33, Tryz.ntmps33
  go_wp2_with fail
  go_ret
  exact ⟨rfl, rfl⟩
theorem down_any (h : DiskAt w fp p d) : Calls Tryz.prog 34 #[.pointer (some ⟨p, 0, none⟩)] w fun e w' => e = .returned (.bool d.down) ∧ w = w' := by
  obtain ⟨mb, fv, h⟩ := h
  have hc := h.cell.2.2.2.2
  clear h
  go_enter Tryz.func34, Tryz.ntmps34
  go_wp2_with fail
  go_ret
  exact ⟨rfl, rfl⟩
set_option maxRecDepth 100000 in
theorem sure_any (h : DiskAt w fp p d) (s : ByteArray) (hs : s.size ≤ maxLen) : Calls Tryz.prog 15 #[.pointer (some ⟨p, 0, none⟩), .string s] w fun e w' => e = .returned (.int .i64 ((DiskM.old d s.data.toList).2 : Nat)) ∧ w = w' := by
  obtain ⟨mb, fv, h⟩ := h
  have hc := h.cell.1
  have hl := h.look_plain s hs
  have HO := Lib.hid (h.old s.data.toList)
  have hfd := field_sure
  clear h
  go_enter Tryz.func15, Tryz.ntmps15
  go_wp2_with fail
  go_ret
  exact ⟨by rw [HO.out]; rfl, rfl⟩
set_option maxRecDepth 100000 in
theorem has_any (h : DiskAt w fp p d) (s : ByteArray) (hs : s.size ≤ maxLen) : Calls Tryz.prog 74 #[.pointer (some ⟨p, 0, none⟩), .string s] w fun e w' => e = .returned (.int .i64 (DiskM.has d s.data.toList : Nat)) ∧ Below w.heap.size w w' := by
  obtain ⟨mb, fv, h⟩ := h
  have hc := h.cell.1
  have hl := h.look_ok s hs
  clear h
  unfold DiskM.has
  by_cases hi : (DiskM.look s.data.toList d.files).isSome = true
  · rw [hi] at hl ⊢
    clear hi
    go_enter Tryz.func74, Tryz.ntmps74
    go_wp2_with fail
    go_ret
    exact ⟨rfl, (Below.refl _ _).alloc (Nat.le_refl _) _⟩
  · have hi' : (DiskM.look s.data.toList d.files).isSome = false := by simpa using hi
    rw [hi'] at hl ⊢
    clear hi hi'
    go_enter Tryz.func74, Tryz.ntmps74
    go_wp2_with fail
    go_ret
    exact ⟨rfl, (Below.refl _ _).alloc (Nat.le_refl _) _⟩
/-- a write of a field or two -/
def WroteIs (w : World) (fp : Nat → Prop) (p : Nat) (v : Value) (d : DS) (e : Ending) (w' : World) : Prop := e = .returned v ∧ DiskAt w' fp p d ∧ Turn fp w w'
theorem grow_any (h : DiskAt w fp p d) (room : Int) : Calls Tryz.prog 27 #[.pointer (some ⟨p, 0, none⟩), .int .i64 room] w (WroteIs w fp p (.tuple #[]) (DiskM.grow d room)) := by
  obtain ⟨mb, fv, h⟩ := h
  have hc := h.cell.2.1
  have hf := h.free 1
  have hok := h.ok
  have HW := Lib.hid (h.setF (d' := DiskM.grow d room) 1 (.int .i64 (held room : Nat)) rfl rfl ⟨held_le _, hok.used, hok.left0, hok.left1, hok.sure, hok.name, hok.few, hok.rising⟩)
  have HF := Lib.hid h.fpp
  clear h hok
  go_enter Tryz.func27, Tryz.ntmps27
  go_wp2_with (go_at_call 16; refine (held_any _ _).mono ?_; rintro e w1 ⟨rfl, rfl⟩)
  go_end0
  exact ⟨rfl, ⟨_, _, HW.out⟩, Turn.setCell fp w HF.out _⟩
theorem arm_any (h : DiskAt w fp p d) (calls : Int) (hc0 : -9223372036854775808 ≤ calls) (hc1 : calls ≤ 9223372036854775807) (done : Bool) : Calls Tryz.prog 23 #[.pointer (some ⟨p, 0, none⟩), .int .i64 calls, .bool done] w (WroteIs w fp p (.tuple #[]) (DiskM.arm d calls done)) := by
  obtain ⟨mb, fv, h⟩ := h
  have hd := h.cell.2.2.2.2
  have hc2 := h.cell.2.2.1
  have hc3 := h.cell.2.2.2.1
  have hf2 := h.free 2
  have hf3 := h.free 3
  have HF := Lib.hid h.fpp
  unfold DiskM.arm
  by_cases hdn : d.down = true
  · rw [if_pos hdn]
    rw [hdn] at hd
    have HR := Lib.hid h
    clear h hdn
    go_enter Tryz.func23, Tryz.ntmps23
    go_wp2_with fail
    go_end0
    exact ⟨rfl, ⟨_, _, HR.out⟩, Turn.refl _ _⟩
  · rw [if_neg hdn]
    have hdn' : d.down = false := by simpa using hdn
    rw [hdn'] at hd
    have hok := h.ok
    have h1 := h.setF (d' := { d with left := max calls (-1) }) 2 (.int .i64 (max calls (-1))) rfl rfl ⟨hok.room, hok.used, by show -1 ≤ max calls (-1); omega, by show max calls (-1) ≤ _; omega, hok.sure, hok.name, hok.few, hok.rising⟩
    have hok1 := h1.ok
    have HR := Lib.hid (h1.setF (d' := { d with left := max calls (-1), done := done }) 3 (.bool done) rfl rfl ⟨hok1.room, hok1.used, hok1.left0, hok1.left1, hok1.sure, hok1.name, hok1.few, hok1.rising⟩)
    have HT := Lib.hid ((Turn.setCell fp w (p := ⟨p, 2, none⟩) h.fpp (.int .i64 (max calls (-1)))).trans0 (Turn.setCell fp _ (p := ⟨p, 3, none⟩) h.fpp (.bool done)))
    clear h h1 hok hok1 hdn hdn'
    by_cases hm : calls < -1
    · have e : max calls (-1) = -1 := by omega
      rw [e] at HR HT ⊢
      clear e
      go_enter Tryz.func23, Tryz.ntmps23
      go_wp2_with fail
      go_end0
      exact ⟨rfl, ⟨_, _, HR.out⟩, HT.out⟩
    · have e : max calls (-1) = calls := by omega
      rw [e] at HR HT ⊢
      clear e
      go_enter Tryz.func23, Tryz.ntmps23
      go_wp2_with fail
      go_end0
      exact ⟨rfl, ⟨_, _, HR.out⟩, HT.out⟩
theorem goes_any (h : DiskAt w fp p d) : Calls Tryz.prog 77 #[.pointer (some ⟨p, 0, none⟩)] w (WroteIs w fp p (.bool (goes d)) (gone d)) := by
  obtain ⟨mb, fv, h⟩ := h
  have hok := h.ok
  have hl0 := hok.left0
  have hl1 := hok.left1
  have hc2 := h.cell.2.2.1
  have hf2 := h.free 2
  have hc4 := h.cell.2.2.2.2
  have hf4 := h.free 4
  have HF := Lib.hid h.fpp
  unfold goes gone
  by_cases hn : d.left < 0
  · have HG := Lib.hid (show decide (d.left ≠ 0) = true by simp; omega)
    rw [if_pos hn, HG.out]
    have HR := Lib.hid h
    clear h hok
    go_enter Tryz.func77, Tryz.ntmps77
    go_wp2_with fail
    go_ret
    exact ⟨rfl, ⟨_, _, HR.out⟩, Turn.refl _ _⟩
  · rw [if_neg hn]
    by_cases hq : 0 < d.left
    · have HG := Lib.hid (show decide (d.left ≠ 0) = true by simp; omega)
      rw [if_pos hq, HG.out]
      have HR := Lib.hid (h.setF (d' := { d with left := d.left - 1 }) 2 (.int .i64 (d.left - 1)) rfl rfl ⟨hok.room, hok.used, by show -1 ≤ d.left - 1; omega, by show d.left - 1 ≤ _; omega, hok.sure, hok.name, hok.few, hok.rising⟩)
      clear h hok
      go_enter Tryz.func77, Tryz.ntmps77
      go_wp2_with fail
      go_ret
      exact ⟨rfl, ⟨_, _, HR.out⟩, Turn.setCell fp w HF.out _⟩
    · have HG := Lib.hid (show decide (d.left ≠ 0) = false by simp; omega)
      rw [if_neg hq, HG.out]
      have h1 := h.setF (d' := { d with down := true }) 4 (.bool true) rfl rfl ⟨hok.room, hok.used, hok.left0, hok.left1, hok.sure, hok.name, hok.few, hok.rising⟩
      have hok1 := h1.ok
      have HR := Lib.hid (h1.setF (d' := { d with left := -1, down := true }) 2 (.int .i64 (-1)) rfl rfl ⟨hok1.room, hok1.used, by show (-1 : Int) ≤ -1; omega, by show (-1 : Int) ≤ _; omega, hok1.sure, hok1.name, hok1.few, hok1.rising⟩)
      have HT := Lib.hid ((Turn.setCell fp w (p := ⟨p, 4, none⟩) h.fpp (.bool true)).trans0 (Turn.setCell fp _ (p := ⟨p, 2, none⟩) h.fpp (.int .i64 (-1))))
      clear h h1 hok hok1
      go_enter Tryz.func77, Tryz.ntmps77
      go_wp2_with fail
      go_ret
      exact ⟨rfl, ⟨_, _, HR.out⟩, HT.out⟩
end
end Go.Proofs.YtopnhplacdbkdaaGreat
namespace Go.Proofs.YtopnhplacdbkdaaGreat
open Go.RowKit DiskM

theorem take_snoc' (s : ByteArray) (k : Nat) (h : k < s.size) : s.data.toList.take (k + 1) = s.data.toList.take k ++ [s[k]] := by
  rw [List.take_succ_eq_append_getElem (by simpa using h)]; rfl
theorem all_snoc (s : ByteArray) (k : Nat) (h : k < s.size) (hb : okByte s[k] = true) (ha : (s.data.toList.take k).all okByte = true) : (s.data.toList.take (k + 1)).all okByte = true := by
  rw [take_snoc' s k h, List.all_append, ha]; simp [hb]
theorem not_all (s : ByteArray) (k : Nat) (h : k < s.size) (hb : okByte s[k] = false) : named s.data.toList = false := by
  unfold named
  have : s.data.toList.all okByte = false := by
    rw [List.all_eq_false]
    exact ⟨s[k], by simp [ByteArray.getElem_eq_getElem_data], by simp [hb]⟩
  rw [this]; rfl
theorem ret_bool' {a b : Bool} (h : a = b) : Ending.returned (.bool a) = .returned (.bool b) := by rw [h]

set_option maxRecDepth 100000 in
set_option maxHeartbeats 1000000 in
theorem named_any (s : ByteArray) (w : World) (hs : s.size ≤ maxLen) : Calls Tryz.prog 38 #[.string s] w fun e w' => e = .returned (.bool (named s.data.toList)) ∧ w = w' := by
  unfold maxLen at hs
  go_enter Tryz.func38, Tryz.ntmps38
  go_wp2
  go_loop [7] (fun i => ∃ k : Nat, k ≤ s.size ∧ i = .int .i64 k ∧ (s.data.toList.take k).all okByte = true) (fun i => s.size - (intOf i).toNat)
  case atStart => exact ⟨0, Nat.zero_le _, rfl, by simp⟩
  case round =>
    obtain ⟨k, hk, rfl, hall⟩ := hrel
    by_cases hlt : k < s.size
    · have HALL := Lib.hid hall
      clear hall
      obtain ⟨c, hc⟩ : ∃ c, c = s[k] := ⟨_, rfl⟩
      by_cases hb : okByte c = true
      · have HN := Lib.hid (all_snoc s k hlt (by rw [← hc]; exact hb) HALL.out)
        have hb' : c.toNat = 46 ∨ (97 ≤ c.toNat ∧ c.toNat ≤ 122) ∨ (48 ≤ c.toNat ∧ c.toNat ≤ 57) := by
          unfold okByte at hb
          simp only [Bool.or_eq_true, Bool.and_eq_true, decide_eq_true_eq, beq_iff_eq] at hb
          rcases hb with (rfl | h) | h
          · exact .inl rfl
          · exact .inr (.inl h)
          · exact .inr (.inr h)
        clear hb
        rcases hb' with h1 | ⟨h1, h2⟩ | ⟨h1, h2⟩
        · have t1 : ((s[k].toNat : Int) != 46) = false := by rw [← hc, h1]; rfl
          clear hc h1
          go_wp2
          go_round
          case rel => exact ⟨k + 1, by omega, by go_num, HN.out⟩
          case measure => simp [intOf]; omega
        · have t1 : ((s[k].toNat : Int) != 46) = true := by rw [← hc, bne_iff_ne]; omega
          have t2 : 97 ≤ (s[k].toNat : Int) := by rw [← hc]; omega
          have t3 : (s[k].toNat : Int) ≤ 122 := by rw [← hc]; omega
          clear hc h1 h2
          go_wp2
          go_round
          case rel => exact ⟨k + 1, by omega, by go_num, HN.out⟩
          case measure => simp [intOf]; omega
        · have t1 : ((s[k].toNat : Int) != 46) = true := by rw [← hc, bne_iff_ne]; omega
          have t2 : 48 ≤ (s[k].toNat : Int) := by rw [← hc]; omega
          have t3 : (s[k].toNat : Int) ≤ 57 := by rw [← hc]; omega
          clear hc h1 h2
          go_wp2
          go_round
          case rel => exact ⟨k + 1, by omega, by go_num, HN.out⟩
          case measure => simp [intOf]; omega
      · have HN := Lib.hid (not_all s k hlt (by rw [← hc]; simpa using hb))
        have hb' : c.toNat ≠ 46 ∧ (c.toNat < 48 ∨ (57 < c.toNat ∧ c.toNat < 97) ∨ 122 < c.toNat) := by
          have hb2 : okByte c = false := by simpa using hb
          unfold okByte at hb2
          simp only [Bool.or_eq_false_iff, Bool.and_eq_false_iff, decide_eq_false_iff_not, beq_eq_false_iff_ne] at hb2
          refine ⟨fun e => hb2.1.1 ?_, ?_⟩
          · exact UInt8.toNat_inj.1 e
          · omega
        have t1 : ((s[k].toNat : Int) != 46) = true := by rw [← hc, bne_iff_ne]; omega
        obtain ⟨_, h1 | ⟨h1, h2⟩ | h1⟩ := hb'
        · have t2 : (s[k].toNat : Int) < 48 := by rw [← hc]; omega
          clear hc h1 hb
          go_wp2
          go_ret
          exact ⟨ret_bool' HN.out.symm, rfl⟩
        · have t2 : 57 < (s[k].toNat : Int) := by rw [← hc]; omega
          have t3 : (s[k].toNat : Int) < 97 := by rw [← hc]; omega
          clear hc h1 h2 hb
          go_wp2
          go_ret
          exact ⟨ret_bool' HN.out.symm, rfl⟩
        · have t2 : 122 < (s[k].toNat : Int) := by rw [← hc]; omega
          clear hc h1 hb
          go_wp2
          go_ret
          exact ⟨ret_bool' HN.out.symm, rfl⟩
    · obtain rfl : k = s.size := by omega
      have hall' : s.data.toList.all okByte = true := by
        rw [List.take_of_length_le (by simp)] at hall; exact hall
      have hn : named s.data.toList = (decide (1 ≤ s.size) && decide (s.size ≤ 16)) := by
        unfold named; rw [hall']; simp
      have HN := Lib.hid hn
      clear hall hall' hn
      by_cases h1 : 1 ≤ s.size
      · by_cases h2 : s.size ≤ 16
        · have H := Lib.hid (show decide ((s.size : Int) ≤ 16) = named s.data.toList by rw [HN.out]; simp [h1]; omega)
          go_wp2
          go_ret
          exact ⟨ret_bool' H.out, rfl⟩
        · have H := Lib.hid (show named s.data.toList = false by rw [HN.out]; simp [h2])
          have h2' : ¬ ((s.size : Int) ≤ 16) := by omega
          go_wp2
          go_ret
          exact ⟨ret_bool' H.out.symm, rfl⟩
      · have H := Lib.hid (show named s.data.toList = false by rw [HN.out]; simp [h1])
        have h1' : ¬ (1 ≤ (s.size : Int)) := by omega
        go_wp2
        go_ret
        exact ⟨ret_bool' H.out.symm, rfl⟩
end Go.Proofs.YtopnhplacdbkdaaGreat
