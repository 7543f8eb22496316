/- The walk of the disk statements' known file. No condition. -/
import Derived.Test.YtopnhplacdbkdaaDiskKept
import Derived.Test.YtopnhplacdbkdaaDiskKnownM
import Derived.Lib.SlBytesConst
namespace Go.Proofs.Ytopnhplacdbkdaa
open Go.RowKit DiskM Go.Shelf

set_option maxRecDepth 100000 in
set_option maxHeartbeats 4000000 in
theorem diskknown_any (w : World) : Calls Try.prog 35 #[] w fun e w' => e = .returned (.bool true) ∧ Below w.heap.size w w' := by
  go_enter Try.func35, Try.ntmps35
  go_wp2_with fail
  refine (new_k 100 _ w.heap.size (fun _ => False) (Nat.le_refl _) (fun _ h => h.elim)).mono ?_
  rintro e w0 ⟨p, rfl, hk0, hb0⟩
  have hT0 : Turn (off w.heap.size fun _ => False) w w0 := Turn.of_below hb0 _
  change DK w0 _ _ p kn0 at hk0
  have HK0 := Lib.hid hk0
  have HT0 := Lib.hid hT0
  clear hb0 hk0 hT0
  have hcv := Lib.run_convert_bytes_const (P := Try.prog) w0 23 5 #[.int .u8 97, .int .u8 98] 2 2 Try.underlying23 Try.underlying5
  go_wp2_with fail
  have hb1 : Below w0.heap.size w0 (w0.alloc (.cells #[.int .u8 97, .int .u8 98] 5 (2, 3))) := (Below.refl _ _).alloc (Nat.le_refl _) _
  refine (append_new HK0.out hb1 ⟨#[97]⟩ (by decide) _ 2 2 [97, 98] rfl (Rd.new w0 #[.int .u8 97, .int .u8 98] 5 (2, 3) [97, 98] rfl |>.more (by simp)) (fun x hx => by injection hx with hx; subst hx; exact ⟨Nat.le_refl _, by simp⟩) kn0_f).mono ?_
  rintro e w1 ⟨rfl, hk1, hT1⟩
  have HT1 := Lib.hid ((HT0.out.trans0 (Turn.of_below hb1 _)).trans0 hT1)
  change DK w1 _ _ p kn1 at hk1
  have HK1 := Lib.hid hk1
  rw [show (append kn0 (⟨#[97]⟩ : ByteArray).data.toList [97, 98]).1 = 0 from kn1_e]
  clear hcv hb1 hk1 hT1 HK0 HT0
  go_wp2_with fail
  refine (sync_k HK1.out ⟨#[97]⟩ (by decide)).mono ?_
  rintro e w2 ⟨rfl, hk2, hT2⟩
  have HT2 := Lib.hid (HT1.out.trans0 hT2)
  change DK w2 _ _ p kn2 at hk2
  have HK2 := Lib.hid hk2
  rw [show (sync kn1 (⟨#[97]⟩ : ByteArray).data.toList).1 = 0 from kn2_e]
  clear hk2 hT2 HK1 HT1
  have hcv := Lib.run_convert_bytes_const (P := Try.prog) w2 23 5 #[.int .u8 99, .int .u8 100] 2 2 Try.underlying23 Try.underlying5
  go_wp2_with fail
  have hb3 : Below w2.heap.size w2 (w2.alloc (.cells #[.int .u8 99, .int .u8 100] 5 (2, 3))) := (Below.refl _ _).alloc (Nat.le_refl _) _
  refine (append_new HK2.out hb3 ⟨#[97]⟩ (by decide) _ 2 2 [99, 100] rfl (Rd.new w2 #[.int .u8 99, .int .u8 100] 5 (2, 3) [99, 100] rfl |>.more (by simp)) (fun x hx => by injection hx with hx; subst hx; exact ⟨Nat.le_refl _, by simp⟩) kn2_f).mono ?_
  rintro e w3 ⟨rfl, hk3, hT3⟩
  have HT3 := Lib.hid ((HT2.out.trans0 (Turn.of_below hb3 _)).trans0 hT3)
  change DK w3 _ _ p kn3 at hk3
  have HK3 := Lib.hid hk3
  rw [show (append kn2 (⟨#[97]⟩ : ByteArray).data.toList [99, 100]).1 = 0 from kn3_e]
  clear hcv hb3 hk3 hT3 HK2 HT2
  go_wp2_with fail
  have hb4 : Below w3.heap.size w3 (w3.alloc (.cells #[.int .u8 1] 5)) := (Below.refl _ _).alloc (Nat.le_refl _) _
  refine (crash_new HK3.out hb4 _ 1 1 [1] rfl (Rd.new w3 #[.int .u8 1] 5 (0, 0) [1] rfl |>.more (by simp)) (fun x hx => by injection hx with hx; subst hx; exact ⟨Nat.le_refl _, by simp⟩)).mono ?_
  rintro e w4 ⟨rfl, hk4, hT4⟩
  have HT4 := Lib.hid ((HT3.out.trans0 (Turn.of_below hb4 _)).trans0 hT4)
  change DK w4 _ _ p kn4 at hk4
  have HK4 := Lib.hid hk4
  clear hb4 hk4 hT4 HK3 HT3
  go_wp2_with fail
  refine (read_k HK4.out ⟨#[97]⟩ (by decide)).mono ?_
  rw [show DiskM.read kn4 (⟨#[97]⟩ : ByteArray).data.toList = _ from kn4_r]
  rintro e w5 ⟨a, c, rfl, hown, hb5⟩
  have hstr := run_string_b w5 w5.heap.size a 3 c [97, 98, 99] (hown.rd) rfl
  have HK5 := Lib.hid (HK4.out.below hb5)
  have HT5 := Lib.hid (HT4.out.trans0 (Turn.of_below hb5 _))
  clear hb5 HK4 HT4 hown
  go_wp2_with fail
  refine (sure_k HK5.out ⟨#[97]⟩ (by decide)).mono ?_
  rw [show (DiskM.old kn4 (⟨#[97]⟩ : ByteArray).data.toList).2 = 3 from kn4_s]
  rintro e w6 ⟨rfl, rfl⟩
  go_wp2_with fail
  refine (used_k HK5.out).mono ?_
  rw [kn4_u]
  rintro e w6 ⟨rfl, hb6⟩
  have HK6 := Lib.hid (HK5.out.below hb6)
  have HT6 := Lib.hid (HT5.out.trans0 (Turn.of_below hb6 _))
  clear hb6 HK5 HT5
  go_wp2_with fail
  refine (room_k HK6.out).mono ?_
  rw [kn4_room]
  rintro e w7 ⟨rfl, rfl⟩
  go_wp2_with fail
  refine (list_k HK6.out).mono ?_
  rintro e w7 ⟨a7, c7, rfl, hrow7, hb7⟩
  rw [show (namesOf kn4).length = 1 from kn4_n]
  have HK7 := Lib.hid (HK6.out.below hb7)
  have HT7 := Lib.hid (HT6.out.trans0 (Turn.of_below hb7 _))
  clear hb7 HK6 HT6 hrow7
  go_wp2_with fail
  refine (rename_k HK7.out ⟨#[97]⟩ ⟨#[98]⟩ (by decide) (by decide)).mono ?_
  rintro e w8 ⟨rfl, hk8, hT8⟩
  have HT8 := Lib.hid (HT7.out.trans0 hT8)
  change DK w8 _ _ p kn5 at hk8
  have HK8 := Lib.hid hk8
  rw [show (rename kn4 (⟨#[97]⟩ : ByteArray).data.toList (⟨#[98]⟩ : ByteArray).data.toList).1 = 0 from kn5_e]
  clear hk8 hT8 HK7 HT7
  go_wp2_with fail
  refine (remove_k HK8.out ⟨#[97]⟩ (by decide)).mono ?_
  rintro e w9 ⟨rfl, hk9, hT9⟩
  have HT9 := Lib.hid (HT8.out.trans0 hT9)
  change DK w9 _ _ p kn6 at hk9
  have HK9 := Lib.hid hk9
  rw [show (remove kn5 (⟨#[97]⟩ : ByteArray).data.toList).1 = 12 from kn6_e]
  clear hk9 hT9 HK8 HT8
  go_wp2_with fail
  refine (remove_k HK9.out ⟨#[98]⟩ (by decide)).mono ?_
  rintro e w10 ⟨rfl, hk10, hT10⟩
  have HT10 := Lib.hid (HT9.out.trans0 hT10)
  rw [show (remove kn6 (⟨#[98]⟩ : ByteArray).data.toList).1 = 0 from kn7_e]
  clear hk10 hT10 HK9 HT9
  go_wp2_with fail
  go_ret
  exact ⟨rfl, Below.turn (Below.refl _ _) HT10.out (Nat.le_refl _) (fun k h => h.1)⟩
end Go.Proofs.Ytopnhplacdbkdaa
