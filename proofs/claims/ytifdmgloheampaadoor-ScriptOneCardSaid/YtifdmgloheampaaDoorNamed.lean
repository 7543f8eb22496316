/- The walks of the two judges of a file's name. Condition: the text has a length. -/
import Derived.Test.YtifdmgloheampaaDoorDiskM
import Derived.Test.YtifdmgloheampaaDoorOwn
import Derived.Carry
namespace Go.Proofs.YtifdmgloheampaaDoor
open Go.RowKit DiskM

theorem take_snoc' (s : ByteArray) (k : Nat) (h : k < s.size) : s.data.toList.take (k + 1) = s.data.toList.take k ++ [s[k]] := by
  rw [List.take_succ_eq_append_getElem (by simpa using h)]; rfl
theorem all_snoc (s : ByteArray) (k : Nat) (h : k < s.size) (hb : okByte s[k] = true) (ha : (s.data.toList.take k).all okByte = true) : (s.data.toList.take (k + 1)).all okByte = true := by
  rw [take_snoc' s k h, List.all_append, ha]; simp [hb]
theorem not_all (s : ByteArray) (k : Nat) (h : k < s.size) (hb : okByte s[k] = false) : named s.data.toList = false := by
  unfold named
  have : s.data.toList.all okByte = false := by
    rw [List.all_eq_false]
    exact ⟨s[k], by simp [ByteArray.getElem_eq_getElem_data], by simp [hb]⟩
  rw [this]; rfl
theorem ret_bool' {a b : Bool} (h : a = b) : Ending.returned (.bool a) = .returned (.bool b) := by rw [h]

set_option maxRecDepth 100000 in
set_option maxHeartbeats 1000000 in
theorem named_any (s : ByteArray) (w : World) (hs : s.size ≤ maxLen) : Calls Tryd.prog 21 #[.string s] w fun e w' => e = .returned (.bool (named s.data.toList)) ∧ w = w' := by
  unfold maxLen at hs
  go_enter Tryd.func21, Tryd.ntmps21
  go_wp2
  go_loop [7] (fun i => ∃ k : Nat, k ≤ s.size ∧ i = .int .i64 k ∧ (s.data.toList.take k).all okByte = true) (fun i => s.size - (intOf i).toNat)
  case atStart => exact ⟨0, Nat.zero_le _, rfl, by simp⟩
  case round =>
    obtain ⟨k, hk, rfl, hall⟩ := hrel
    by_cases hlt : k < s.size
    · have HALL := Lib.hid hall
      clear hall
      obtain ⟨c, hc⟩ : ∃ c, c = s[k] := ⟨_, rfl⟩
      by_cases hb : okByte c = true
      · have HN := Lib.hid (all_snoc s k hlt (by rw [← hc]; exact hb) HALL.out)
        have hb' : c.toNat = 46 ∨ (97 ≤ c.toNat ∧ c.toNat ≤ 122) ∨ (48 ≤ c.toNat ∧ c.toNat ≤ 57) := by
          unfold okByte at hb
          simp only [Bool.or_eq_true, Bool.and_eq_true, decide_eq_true_eq, beq_iff_eq] at hb
          rcases hb with (rfl | h) | h
          · exact .inl rfl
          · exact .inr (.inl h)
          · exact .inr (.inr h)
        clear hb
        rcases hb' with h1 | ⟨h1, h2⟩ | ⟨h1, h2⟩
        · have t1 : ((s[k].toNat : Int) != 46) = false := by rw [← hc, h1]; rfl
          clear hc h1
          go_wp2
          go_round
          case rel => exact ⟨k + 1, by omega, by go_num, HN.out⟩
          case measure => simp [intOf]; omega
        · have t1 : ((s[k].toNat : Int) != 46) = true := by rw [← hc, bne_iff_ne]; omega
          have t2 : 97 ≤ (s[k].toNat : Int) := by rw [← hc]; omega
          have t3 : (s[k].toNat : Int) ≤ 122 := by rw [← hc]; omega
          clear hc h1 h2
          go_wp2
          go_round
          case rel => exact ⟨k + 1, by omega, by go_num, HN.out⟩
          case measure => simp [intOf]; omega
        · have t1 : ((s[k].toNat : Int) != 46) = true := by rw [← hc, bne_iff_ne]; omega
          have t2 : 48 ≤ (s[k].toNat : Int) := by rw [← hc]; omega
          have t3 : (s[k].toNat : Int) ≤ 57 := by rw [← hc]; omega
          clear hc h1 h2
          go_wp2
          go_round
          case rel => exact ⟨k + 1, by omega, by go_num, HN.out⟩
          case measure => simp [intOf]; omega
      · have HN := Lib.hid (not_all s k hlt (by rw [← hc]; simpa using hb))
        have hb' : c.toNat ≠ 46 ∧ (c.toNat < 48 ∨ (57 < c.toNat ∧ c.toNat < 97) ∨ 122 < c.toNat) := by
          have hb2 : okByte c = false := by simpa using hb
          unfold okByte at hb2
          simp only [Bool.or_eq_false_iff, Bool.and_eq_false_iff, decide_eq_false_iff_not, beq_eq_false_iff_ne] at hb2
          refine ⟨fun e => hb2.1.1 ?_, ?_⟩
          · exact UInt8.toNat_inj.1 e
          · omega
        have t1 : ((s[k].toNat : Int) != 46) = true := by rw [← hc, bne_iff_ne]; omega
        obtain ⟨_, h1 | ⟨h1, h2⟩ | h1⟩ := hb'
        · have t2 : (s[k].toNat : Int) < 48 := by rw [← hc]; omega
          clear hc h1 hb
          go_wp2
          go_ret
          exact ⟨ret_bool' HN.out.symm, rfl⟩
        · have t2 : 57 < (s[k].toNat : Int) := by rw [← hc]; omega
          have t3 : (s[k].toNat : Int) < 97 := by rw [← hc]; omega
          clear hc h1 h2 hb
          go_wp2
          go_ret
          exact ⟨ret_bool' HN.out.symm, rfl⟩
        · have t2 : 122 < (s[k].toNat : Int) := by rw [← hc]; omega
          clear hc h1 hb
          go_wp2
          go_ret
          exact ⟨ret_bool' HN.out.symm, rfl⟩
    · obtain rfl : k = s.size := by omega
      have hall' : s.data.toList.all okByte = true := by
        rw [List.take_of_length_le (by simp)] at hall; exact hall
      have hn : named s.data.toList = (decide (1 ≤ s.size) && decide (s.size ≤ 16)) := by
        unfold named; rw [hall']; simp
      have HN := Lib.hid hn
      clear hall hall' hn
      by_cases h1 : 1 ≤ s.size
      · by_cases h2 : s.size ≤ 16
        · have H := Lib.hid (show decide ((s.size : Int) ≤ 16) = named s.data.toList by rw [HN.out]; simp [h1]; omega)
          go_wp2
          go_ret
          exact ⟨ret_bool' H.out, rfl⟩
        · have H := Lib.hid (show named s.data.toList = false by rw [HN.out]; simp [h2])
          have h2' : ¬ ((s.size : Int) ≤ 16) := by omega
          go_wp2
          go_ret
          exact ⟨ret_bool' H.out.symm, rfl⟩
      · have H := Lib.hid (show named s.data.toList = false by rw [HN.out]; simp [h1])
        have h1' : ¬ (1 ≤ (s.size : Int)) := by omega
        go_wp2
        go_ret
        exact ⟨ret_bool' H.out.symm, rfl⟩

set_option maxRecDepth 100000 in
set_option maxHeartbeats 1000000 in
theorem refname_any (s : ByteArray) (w : World) (hs : s.size ≤ maxLen) : Calls Tryd.prog 22 #[.string s] w fun e w' => e = .returned (.bool (named s.data.toList)) ∧ w = w' := by
  unfold maxLen at hs
  by_cases hz1 : s.size < 1
  · have H := Lib.hid (show named s.data.toList = false by unfold named; rw [decide_eq_false (show ¬ 1 ≤ s.data.toList.length by rw [show s.data.toList.length = s.size by simp]; omega), Bool.and_false, Bool.false_and])
    have h1' : (s.size : Int) < 1 := by omega
    go_enter Tryd.func22, Tryd.ntmps22
    go_wp2_with fail
    go_ret
    exact ⟨ret_bool' H.out.symm, rfl⟩
  by_cases hz2 : 16 < s.size
  · have H := Lib.hid (show named s.data.toList = false by unfold named; rw [decide_eq_false (show ¬ s.data.toList.length ≤ 16 by simp; omega), Bool.and_false])
    have h1' : ¬ ((s.size : Int) < 1) := by omega
    have h2' : (16 : Int) < (s.size : Int) := by omega
    go_enter Tryd.func22, Tryd.ntmps22
    go_wp2_with fail
    go_ret
    exact ⟨ret_bool' H.out.symm, rfl⟩
  have hz1' : ¬ ((s.size : Int) < 1) := by omega
  have hz2' : ¬ ((16 : Int) < (s.size : Int)) := by omega
  go_enter Tryd.func22, Tryd.ntmps22
  go_wp2_with fail
  go_loop [3] (fun i => ∃ k : Nat, k ≤ s.size ∧ i = .int .i64 k ∧ (s.data.toList.take k).all okByte = true) (fun i => s.size - (intOf i).toNat)
  case atStart => exact ⟨0, Nat.zero_le _, rfl, by simp⟩
  case round =>
    obtain ⟨k, hk, rfl, hall⟩ := hrel
    by_cases hlt : k < s.size
    · have HALL := Lib.hid hall
      clear hall
      obtain ⟨c, hc⟩ : ∃ c, c = s[k] := ⟨_, rfl⟩
      by_cases hb : okByte c = true
      · have HN := Lib.hid (all_snoc s k hlt (by rw [← hc]; exact hb) HALL.out)
        have hb' : c.toNat = 46 ∨ (97 ≤ c.toNat ∧ c.toNat ≤ 122) ∨ (48 ≤ c.toNat ∧ c.toNat ≤ 57) := by
          unfold okByte at hb
          simp only [Bool.or_eq_true, Bool.and_eq_true, decide_eq_true_eq, beq_iff_eq] at hb
          rcases hb with (rfl | h) | h
          · exact .inl rfl
          · exact .inr (.inl h)
          · exact .inr (.inr h)
        clear hb
        rcases hb' with h1 | ⟨h1, h2⟩ | ⟨h1, h2⟩
        · have t1 : (s[k].toNat : Int) = 46 := by rw [← hc, h1]; rfl
          clear hc h1
          go_wp2
          go_round
          case rel => exact ⟨k + 1, by omega, by go_num, HN.out⟩
          case measure => simp [intOf]; omega
        · have t1 : ((s[k].toNat : Int) != 46) = true := by rw [← hc, bne_iff_ne]; omega
          have t2 : 97 ≤ (s[k].toNat : Int) := by rw [← hc]; omega
          have t3 : (s[k].toNat : Int) ≤ 122 := by rw [← hc]; omega
          clear hc h1 h2
          go_wp2
          go_round
          case rel => exact ⟨k + 1, by omega, by go_num, HN.out⟩
          case measure => simp [intOf]; omega
        · have t1 : ((s[k].toNat : Int) != 46) = true := by rw [← hc, bne_iff_ne]; omega
          have t2 : 48 ≤ (s[k].toNat : Int) := by rw [← hc]; omega
          have t3 : (s[k].toNat : Int) ≤ 57 := by rw [← hc]; omega
          have t4 : ¬ (97 ≤ (s[k].toNat : Int)) := by rw [← hc]; omega
          clear hc h1 h2
          go_wp2
          go_round
          case rel => exact ⟨k + 1, by omega, by go_num, HN.out⟩
          case measure => simp [intOf]; omega
      · have HN := Lib.hid (not_all s k hlt (by rw [← hc]; simpa using hb))
        have hb' : c.toNat ≠ 46 ∧ (c.toNat < 48 ∨ (57 < c.toNat ∧ c.toNat < 97) ∨ 122 < c.toNat) := by
          have hb2 : okByte c = false := by simpa using hb
          unfold okByte at hb2
          simp only [Bool.or_eq_false_iff, Bool.and_eq_false_iff, decide_eq_false_iff_not, beq_eq_false_iff_ne] at hb2
          refine ⟨fun e => hb2.1.1 ?_, ?_⟩
          · exact UInt8.toNat_inj.1 e
          · omega
        have t1 : ((s[k].toNat : Int) != 46) = true := by rw [← hc, bne_iff_ne]; omega
        obtain ⟨_, h1 | ⟨h1, h2⟩ | h1⟩ := hb'
        · have t2 : ¬ (48 ≤ (s[k].toNat : Int)) := by rw [← hc]; omega
          have t4 : ¬ (97 ≤ (s[k].toNat : Int)) := by rw [← hc]; omega
          clear hc h1 hb
          go_wp2
          go_ret
          exact ⟨ret_bool' HN.out.symm, rfl⟩
        · have t2 : ¬ ((s[k].toNat : Int) ≤ 57) := by rw [← hc]; omega
          have t3 : ¬ (97 ≤ (s[k].toNat : Int)) := by rw [← hc]; omega
          have t4 : 48 ≤ (s[k].toNat : Int) := by rw [← hc]; omega
          clear hc h1 h2 hb
          go_wp2
          go_ret
          exact ⟨ret_bool' HN.out.symm, rfl⟩
        · have t2 : ¬ ((s[k].toNat : Int) ≤ 122) := by rw [← hc]; omega
          have t3 : ¬ ((s[k].toNat : Int) ≤ 57) := by rw [← hc]; omega
          have t4 : 48 ≤ (s[k].toNat : Int) := by rw [← hc]; omega
          have t5 : 97 ≤ (s[k].toNat : Int) := by rw [← hc]; omega
          clear hc h1 hb
          go_wp2
          go_ret
          exact ⟨ret_bool' HN.out.symm, rfl⟩
    · obtain rfl : k = s.size := by omega
      have hall' : s.data.toList.all okByte = true := by
        rw [List.take_of_length_le (by simp)] at hall; exact hall
      have hn : named s.data.toList = true := by
        unfold named; rw [hall', decide_eq_true (show 1 ≤ s.data.toList.length by simp; omega), decide_eq_true (show s.data.toList.length ≤ 16 by simp; omega)]; rfl
      have HN := Lib.hid hn
      clear hall hall' hn
      go_wp2
      go_ret
      exact ⟨ret_bool' HN.out.symm, rfl⟩
end Go.Proofs.YtifdmgloheampaaDoor
