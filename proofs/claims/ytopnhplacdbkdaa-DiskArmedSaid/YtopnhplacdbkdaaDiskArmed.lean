/- The walk of the statement DiskArmed. No condition. -/
import Derived.Test.YtopnhplacdbkdaaDiskKnown
import Derived.Test.YtopnhplacdbkdaaDiskArmedM
namespace Go.Proofs.Ytopnhplacdbkdaa
open Go.RowKit DiskM Go.Shelf

set_option maxRecDepth 100000 in
set_option maxHeartbeats 4000000 in
theorem walkDiskArmed (n kind : Nat) (done : Bool) (w : World) (hn : n < 256) (hk : kind < 256) :
    Calls Try.prog 14 #[.int .u8 (n : Int), .int .u8 (kind : Int), .bool done] w fun e w' => e = .returned (.bool true) ∧ Below w.heap.size w w' := by
  go_enter Try.func14, Try.ntmps14
  go_wp2_with fail
  refine (diskknown_any w).mono ?_
  rintro e w1 ⟨rfl, hB1⟩
  go_wp2_with fail
  refine (new_k 1000 _ w.heap.size (fun _ => False) hB1.size (fun _ h => h.elim)).mono ?_
  rintro e w2 ⟨p, rfl, hk2, hb2⟩
  have HT2 := Lib.hid (Turn.of_below (Below.next0 hB1 hb2) (off w.heap.size fun _ => False))
  have HK2 := Lib.hid hk2
  clear hk2 hb2 hB1
  have hcv := Lib.run_convert_bytes_const (P := Try.prog) w2 23 5 #[.int .u8 49, .int .u8 50] 2 2 Try.underlying23 Try.underlying5
  go_wp2_with fail
  have hb3 : Below w2.heap.size w2 (w2.alloc (.cells #[.int .u8 49, .int .u8 50] 5 (2, 3))) := (Below.refl _ _).alloc (Nat.le_refl _) _
  refine (append_new HK2.out hb3 ⟨#[120]⟩ (by decide) _ 2 2 [49, 50] rfl (Rd.new w2 #[.int .u8 49, .int .u8 50] 5 (2, 3) [49, 50] rfl |>.more (by simp)) (fun x hx => by injection hx with hx; subst hx; exact ⟨Nat.le_refl _, by simp⟩) (fresh_few _)).mono ?_
  rw [show append (fresh 1000) (⟨#[120]⟩ : ByteArray).data.toList [49, 50] = (0, ka [49, 50] 0 (-1) false false) from arm_first]
  rintro e w3 ⟨rfl, hk3, hT3⟩
  have HT3 := Lib.hid ((HT2.out.trans0 (Turn.of_below hb3 _)).trans0 hT3)
  have HK3 := Lib.hid hk3
  clear hcv hb3 hk3 hT3 HK2 HT2
  obtain ⟨k, hkk⟩ : ∃ k, n % 20 = k := ⟨_, rfl⟩
  have hkl : k < 20 := by omega
  have hnk : (n : Int) % 20 = (k : Int) := by omega
  have hwk : IntKind.i64.wrap (k : Int) = (k : Int) := by rw [IntKind.wrap_i64]; omega
  go_wp2_with fail
  refine (arm_k HK3.out (k : Int) (by omega) (by omega) done).mono ?_
  rw [arm_arm]
  rintro e w4 ⟨rfl, hk4, hT4⟩
  have HK4 := Lib.hid hk4
  have HT4 := Lib.hid (HT3.out.trans0 hT4)
  clear hk4 hT4 HK3 HT3
  go_wp2_with fail
  go_loopw [9] (fun v wr => ∃ j : Nat, v = .int .i64 j ∧ j ≤ k ∧ DK wr w.heap.size (fun _ => False) p (ka (ax j) 0 ((k : Int) - j) done false) ∧ Turn (off w.heap.size fun _ => False) w wr) (fun v _ => k - (intOf v).toNat)
  case atStart => exact ⟨0, rfl, Nat.zero_le _, by rw [show ((k : Int) - (0 : Nat)) = (k : Int) by omega]; exact HK4.out, HT4.out⟩
  case round =>
    obtain ⟨j, rfl, hj, hkj, htj⟩ := hrel
    have HKJ := Lib.hid hkj
    have HTJ := Lib.hid htj
    clear hkj htj
    by_cases hlt : j < k
    · have hlt' : (j : Int) < (k : Int) := by omega
      go_wp2_with fail
      refine (sync_k HKJ.out ⟨#[110, 111, 110, 101]⟩ (by decide)).mono ?_
      rw [show sync (ka (ax j) 0 ((k : Int) - j) done false) (⟨#[110, 111, 110, 101]⟩ : ByteArray).data.toList = _ from arm_none _ _ _ _]
      rintro e w5 ⟨rfl, hk5, hT5⟩
      have HK5 := Lib.hid hk5
      have HT5 := Lib.hid (HTJ.out.trans0 hT5)
      clear hk5 hT5 HKJ HTJ
      have hcv := Lib.run_convert_bytes_const (P := Try.prog) w5 23 5 #[.int .u8 51] 1 1 Try.underlying23 Try.underlying5
      go_wp2_with fail
      have hb6 : Below w5.heap.size w5 (w5.alloc (.cells #[.int .u8 51] 5 (1, 2))) := (Below.refl _ _).alloc (Nat.le_refl _) _
      refine (append_new HK5.out hb6 ⟨#[120]⟩ (by decide) _ 1 1 [51] rfl (Rd.new w5 #[.int .u8 51] 5 (1, 2) [51] rfl |>.more (by simp)) (fun x hx => by injection hx with hx; subst hx; exact ⟨Nat.le_refl _, by simp⟩) (by show 1 < 1000000; omega)).mono ?_
      rw [show append (ka (ax j) 0 ((k : Int) - j) done false) (⟨#[120]⟩ : ByteArray).data.toList [51] = _ from arm_more _ _ _ (by omega) (by rw [ax_length]; omega), ax_succ, show (k : Int) - j - 1 = (k : Int) - ((j + 1 : Nat) : Int) by omega]
      rintro e w6 ⟨rfl, hk6, hT6⟩
      have HK6 := Lib.hid hk6
      have HT6 := Lib.hid ((HT5.out.trans0 (Turn.of_below hb6 _)).trans0 hT6)
      clear hcv hb6 hk6 hT6 HK5 HT5
      go_wp2_with fail
      refine (down_k HK6.out).mono ?_
      rw [show (ka (ax (j + 1)) 0 ((k : Int) - ((j + 1 : Nat) : Int)) done false).down = false from rfl]
      rintro e w7 ⟨rfl, rfl⟩
      go_wp2_with fail
      go_roundw
      case rel => exact ⟨j + 1, by go_num, by omega, HK6.out, HT6.out⟩
      case measure => simp [intOf]; omega
    · obtain rfl : k = j := by omega
      obtain ⟨v0, hv0⟩ : ∃ x, x = wr := ⟨_, rfl⟩
      subst hv0
      rw [show (k : Int) - (k : Nat) = 0 by omega] at HKJ
      obtain ⟨m, hm⟩ : ∃ m, kind % 4 = m := ⟨_, rfl⟩
      have hnm : (kind : Int) % 4 = (m : Int) := by omega
      have hml : m < 4 := by omega
      rcases (by omega : m = 0 ∨ m = 1 ∨ m = 2 ∨ m = 3) with rfl | rfl | rfl | rfl
      · replace hnm : (kind : Int) % 4 = 0 := hnm
        have hcv := Lib.run_convert_bytes_const (P := Try.prog) v0 23 5 #[.int .u8 52, .int .u8 53] 2 2 Try.underlying23 Try.underlying5
        go_wp2_with fail
        have hb8 : Below v0.heap.size v0 (v0.alloc (.cells #[.int .u8 52, .int .u8 53] 5 (2, 3))) := (Below.refl _ _).alloc (Nat.le_refl _) _
        refine (append_new HKJ.out hb8 ⟨#[120]⟩ (by decide) _ 2 2 [52, 53] rfl (Rd.new v0 #[.int .u8 52, .int .u8 53] 5 (2, 3) [52, 53] rfl |>.more (by simp)) (fun x hx => by injection hx with hx; subst hx; exact ⟨Nat.le_refl _, by simp⟩) (by show 1 < 1000000; omega)).mono ?_
        rw [show append (ka (ax k) 0 0 done false) (⟨#[120]⟩ : ByteArray).data.toList [52, 53] = _ from arm_e0 _ _ (by rw [ax_length]; omega)]
        rintro e w8 ⟨rfl, hk8, hT8⟩
        have HK8 := Lib.hid hk8
        have HT8 := Lib.hid ((HTJ.out.trans0 (Turn.of_below hb8 _)).trans0 hT8)
        clear hcv hb8 hk8 hT8 HKJ HTJ
        obtain ⟨d8, hd8⟩ : ∃ d, d = ka (ax k ++ [52, 53]) 0 (-1) done true := ⟨_, rfl⟩
        simp only [← hd8] at HK8 ⊢
        have hdn : d8.down = true := by rw [hd8]; rfl
        have HDN := Lib.hid hdn
        have HD8 := Lib.hid hd8
        clear hd8 hdn
        go_wp2_with fail
        refine (read_k HK8.out ⟨#[120]⟩ (by decide)).mono ?_
        rw [read_down HDN.out]
        rintro e w9 ⟨a9, c9, rfl, _, hb9⟩
        have HK9 := Lib.hid (HK8.out.below hb9)
        have HT9 := Lib.hid (HT8.out.trans0 (Turn.of_below hb9 _))
        clear hb9 HK8 HT8
        go_wp2_with fail
        refine (down_k HK9.out).mono ?_
        rw [HDN.out]
        rintro e w10 ⟨rfl, rfl⟩
        go_wp2_with fail
        refine (append_k HK9.out ⟨#[122]⟩ (by decide) none 0 0 [] rfl (.inl rfl) (fun x hx => by cases hx) (by rw [HD8.out]; show 1 < 1000000; omega)).mono ?_
        rw [append_down HDN.out]
        rintro e w11 ⟨rfl, hk11, hT11⟩
        have HK11 := Lib.hid hk11
        have HT11 := Lib.hid (HT9.out.trans0 hT11)
        clear hk11 hT11 HK9 HT9
        go_wp2_with fail
        refine (sync_k HK11.out ⟨#[120]⟩ (by decide)).mono ?_
        rw [sync_down HDN.out]
        rintro e w12 ⟨rfl, hk12, hT12⟩
        have HK12 := Lib.hid hk12
        have HT12 := Lib.hid (HT11.out.trans0 hT12)
        clear hk12 hT12 HK11 HT11
        go_wp2_with fail
        refine (rename_k HK12.out ⟨#[120]⟩ ⟨#[122]⟩ (by decide) (by decide)).mono ?_
        rw [rename_down HDN.out]
        rintro e w13 ⟨rfl, hk13, hT13⟩
        have HK13 := Lib.hid hk13
        have HT13 := Lib.hid (HT12.out.trans0 hT13)
        clear hk13 hT13 HK12 HT12
        go_wp2_with fail
        refine (remove_k HK13.out ⟨#[120]⟩ (by decide)).mono ?_
        rw [remove_down HDN.out]
        rintro e w14 ⟨rfl, hk14, hT14⟩
        have HK14 := Lib.hid hk14
        have HT14 := Lib.hid (HT13.out.trans0 hT14)
        clear hk14 hT14 HK13 HT13
        go_wp2_with fail
        refine (list_k HK14.out).mono ?_
        rintro e w15 ⟨a15, c15, rfl, hrow15, hb15⟩
        have HK15 := Lib.hid (HK14.out.below hb15)
        have HT15 := Lib.hid (HT14.out.trans0 (Turn.of_below hb15 _))
        clear hb15 HK14 HT14
        cases done
        · have hl : (namesOf d8) = [[120]] := by rw [HD8.out]; rfl
          rw [hl] at hrow15 ⊢
          obtain ⟨g, rfl, _, _, hg15⟩ := hrow15.at_ (j := 0) (x := encStr [120]) rfl
          have hcell : w15.cell? ⟨g, 0, none⟩ = some (.string ⟨#[120]⟩) := hg15
          clear hrow15 hl hg15
          have hu : used d8.files = k + 4 := by rw [HD8.out]; show used [([120], (ax k ++ [52, 53], 0))] = _; rw [used_one, List.length_append, ax_length]; rfl
          have hw4 : IntKind.i64.wrap ((k : Int) + 4) = (k : Int) + 4 := by rw [IntKind.wrap_i64]; omega
          have hw2 : IntKind.i64.wrap ((k : Int) + 2) = (k : Int) + 2 := by rw [IntKind.wrap_i64]; omega
          go_wp2_with fail
          refine (used_k HK15.out).mono ?_
          rw [hu]
          rintro e w16 ⟨rfl, hb16⟩
          have HK16 := Lib.hid (HK15.out.below hb16)
          have HT16 := Lib.hid (HT15.out.trans0 (Turn.of_below hb16 _))
          clear hb16
          go_wp2_with fail
          refine (sure_k HK16.out ⟨#[120]⟩ (by decide)).mono ?_
          rw [show (DiskM.old d8 (⟨#[120]⟩ : ByteArray).data.toList).2 = 0 from by rw [HD8.out]; rfl]
          rintro e w17 ⟨rfl, rfl⟩
          go_wp2_with fail
          go_ret
          exact ⟨rfl, Below.turn (Below.refl _ _) HT16.out (Nat.le_refl _) (fun k h => h.1)⟩
        · have hl : (namesOf d8) = [[120]] := by rw [HD8.out]; rfl
          rw [hl] at hrow15 ⊢
          obtain ⟨g, rfl, _, _, hg15⟩ := hrow15.at_ (j := 0) (x := encStr [120]) rfl
          have hcell : w15.cell? ⟨g, 0, none⟩ = some (.string ⟨#[120]⟩) := hg15
          clear hrow15 hl hg15
          have hu : used d8.files = k + 4 := by rw [HD8.out]; show used [([120], (ax k ++ [52, 53], 0))] = _; rw [used_one, List.length_append, ax_length]; rfl
          have hw4 : IntKind.i64.wrap ((k : Int) + 4) = (k : Int) + 4 := by rw [IntKind.wrap_i64]; omega
          have hw2 : IntKind.i64.wrap ((k : Int) + 2) = (k : Int) + 2 := by rw [IntKind.wrap_i64]; omega
          go_wp2_with fail
          refine (used_k HK15.out).mono ?_
          rw [hu]
          rintro e w16 ⟨rfl, hb16⟩
          have HK16 := Lib.hid (HK15.out.below hb16)
          have HT16 := Lib.hid (HT15.out.trans0 (Turn.of_below hb16 _))
          clear hb16
          go_wp2_with fail
          refine (sure_k HK16.out ⟨#[120]⟩ (by decide)).mono ?_
          rw [show (DiskM.old d8 (⟨#[120]⟩ : ByteArray).data.toList).2 = 0 from by rw [HD8.out]; rfl]
          rintro e w17 ⟨rfl, rfl⟩
          go_wp2_with fail
          go_ret
          exact ⟨rfl, Below.turn (Below.refl _ _) HT16.out (Nat.le_refl _) (fun k h => h.1)⟩
      · replace hnm : (kind : Int) % 4 = 1 := hnm
        go_wp2_with fail
        refine (sync_k HKJ.out ⟨#[120]⟩ (by decide)).mono ?_
        rw [show sync (ka (ax k) 0 0 done false) (⟨#[120]⟩ : ByteArray).data.toList = _ from arm_e1 _ _]
        rintro e w8 ⟨rfl, hk8, hT8⟩
        have HK8 := Lib.hid hk8
        have HT8 := Lib.hid (HTJ.out.trans0 hT8)
        clear hk8 hT8 HKJ HTJ
        obtain ⟨d8, hd8⟩ : ∃ d, d = ka (ax k) (if done then (ax k).length else 0) (-1) done true := ⟨_, rfl⟩
        simp only [← hd8] at HK8 ⊢
        have hdn : d8.down = true := by rw [hd8]; rfl
        have HDN := Lib.hid hdn
        have HD8 := Lib.hid hd8
        clear hd8 hdn
        go_wp2_with fail
        refine (read_k HK8.out ⟨#[120]⟩ (by decide)).mono ?_
        rw [read_down HDN.out]
        rintro e w9 ⟨a9, c9, rfl, _, hb9⟩
        have HK9 := Lib.hid (HK8.out.below hb9)
        have HT9 := Lib.hid (HT8.out.trans0 (Turn.of_below hb9 _))
        clear hb9 HK8 HT8
        go_wp2_with fail
        refine (down_k HK9.out).mono ?_
        rw [HDN.out]
        rintro e w10 ⟨rfl, rfl⟩
        go_wp2_with fail
        refine (append_k HK9.out ⟨#[122]⟩ (by decide) none 0 0 [] rfl (.inl rfl) (fun x hx => by cases hx) (by rw [HD8.out]; show 1 < 1000000; omega)).mono ?_
        rw [append_down HDN.out]
        rintro e w11 ⟨rfl, hk11, hT11⟩
        have HK11 := Lib.hid hk11
        have HT11 := Lib.hid (HT9.out.trans0 hT11)
        clear hk11 hT11 HK9 HT9
        go_wp2_with fail
        refine (sync_k HK11.out ⟨#[120]⟩ (by decide)).mono ?_
        rw [sync_down HDN.out]
        rintro e w12 ⟨rfl, hk12, hT12⟩
        have HK12 := Lib.hid hk12
        have HT12 := Lib.hid (HT11.out.trans0 hT12)
        clear hk12 hT12 HK11 HT11
        go_wp2_with fail
        refine (rename_k HK12.out ⟨#[120]⟩ ⟨#[122]⟩ (by decide) (by decide)).mono ?_
        rw [rename_down HDN.out]
        rintro e w13 ⟨rfl, hk13, hT13⟩
        have HK13 := Lib.hid hk13
        have HT13 := Lib.hid (HT12.out.trans0 hT13)
        clear hk13 hT13 HK12 HT12
        go_wp2_with fail
        refine (remove_k HK13.out ⟨#[120]⟩ (by decide)).mono ?_
        rw [remove_down HDN.out]
        rintro e w14 ⟨rfl, hk14, hT14⟩
        have HK14 := Lib.hid hk14
        have HT14 := Lib.hid (HT13.out.trans0 hT14)
        clear hk14 hT14 HK13 HT13
        go_wp2_with fail
        refine (list_k HK14.out).mono ?_
        rintro e w15 ⟨a15, c15, rfl, hrow15, hb15⟩
        have HK15 := Lib.hid (HK14.out.below hb15)
        have HT15 := Lib.hid (HT14.out.trans0 (Turn.of_below hb15 _))
        clear hb15 HK14 HT14
        cases done
        · have hl : (namesOf d8) = [[120]] := by rw [HD8.out]; rfl
          rw [hl] at hrow15 ⊢
          obtain ⟨g, rfl, _, _, hg15⟩ := hrow15.at_ (j := 0) (x := encStr [120]) rfl
          have hcell : w15.cell? ⟨g, 0, none⟩ = some (.string ⟨#[120]⟩) := hg15
          clear hrow15 hl hg15
          have hu : used d8.files = k + 2 := by rw [HD8.out]; show used [([120], (ax k, _))] = _; rw [used_one, ax_length]
          have hw4 : IntKind.i64.wrap ((k : Int) + 4) = (k : Int) + 4 := by rw [IntKind.wrap_i64]; omega
          have hw2 : IntKind.i64.wrap ((k : Int) + 2) = (k : Int) + 2 := by rw [IntKind.wrap_i64]; omega
          go_wp2_with fail
          refine (sure_k HK15.out ⟨#[120]⟩ (by decide)).mono ?_
          rw [show (DiskM.old d8 (⟨#[120]⟩ : ByteArray).data.toList).2 = 0 from by rw [HD8.out]; rfl]
          rintro e w17 ⟨rfl, rfl⟩
          go_wp2_with fail
          refine (used_k HK15.out).mono ?_
          rw [hu]
          rintro e w16 ⟨rfl, hb16⟩
          have HK16 := Lib.hid (HK15.out.below hb16)
          have HT16 := Lib.hid (HT15.out.trans0 (Turn.of_below hb16 _))
          clear hb16
          go_wp2_with fail
          go_ret
          exact ⟨rfl, Below.turn (Below.refl _ _) HT16.out (Nat.le_refl _) (fun k h => h.1)⟩
        · have hl : (namesOf d8) = [[120]] := by rw [HD8.out]; rfl
          rw [hl] at hrow15 ⊢
          obtain ⟨g, rfl, _, _, hg15⟩ := hrow15.at_ (j := 0) (x := encStr [120]) rfl
          have hcell : w15.cell? ⟨g, 0, none⟩ = some (.string ⟨#[120]⟩) := hg15
          clear hrow15 hl hg15
          have hu : used d8.files = k + 2 := by rw [HD8.out]; show used [([120], (ax k, _))] = _; rw [used_one, ax_length]
          have hw4 : IntKind.i64.wrap ((k : Int) + 4) = (k : Int) + 4 := by rw [IntKind.wrap_i64]; omega
          have hw2 : IntKind.i64.wrap ((k : Int) + 2) = (k : Int) + 2 := by rw [IntKind.wrap_i64]; omega
          go_wp2_with fail
          refine (sure_k HK15.out ⟨#[120]⟩ (by decide)).mono ?_
          rw [show (DiskM.old d8 (⟨#[120]⟩ : ByteArray).data.toList).2 = k + 2 from by rw [HD8.out]; exact ax_length k]
          rintro e w17 ⟨rfl, rfl⟩
          go_wp2_with fail
          go_ret
          exact ⟨rfl, Below.turn (Below.refl _ _) HT15.out (Nat.le_refl _) (fun k h => h.1)⟩
      · replace hnm : (kind : Int) % 4 = 2 := hnm
        go_wp2_with fail
        refine (rename_k HKJ.out ⟨#[120]⟩ ⟨#[121]⟩ (by decide) (by decide)).mono ?_
        rw [show rename (ka (ax k) 0 0 done false) (⟨#[120]⟩ : ByteArray).data.toList (⟨#[121]⟩ : ByteArray).data.toList = _ from arm_e2 _ _]
        rintro e w8 ⟨rfl, hk8, hT8⟩
        have HK8 := Lib.hid hk8
        have HT8 := Lib.hid (HTJ.out.trans0 hT8)
        clear hk8 hT8 HKJ HTJ
        obtain ⟨d8, hd8⟩ : ∃ d, d = ky (ax k) done := ⟨_, rfl⟩
        simp only [← hd8] at HK8 ⊢
        have hdn : d8.down = true := by rw [hd8]; rfl
        have HDN := Lib.hid hdn
        have HD8 := Lib.hid hd8
        clear hd8 hdn
        go_wp2_with fail
        refine (read_k HK8.out ⟨#[120]⟩ (by decide)).mono ?_
        rw [read_down HDN.out]
        rintro e w9 ⟨a9, c9, rfl, _, hb9⟩
        have HK9 := Lib.hid (HK8.out.below hb9)
        have HT9 := Lib.hid (HT8.out.trans0 (Turn.of_below hb9 _))
        clear hb9 HK8 HT8
        go_wp2_with fail
        refine (down_k HK9.out).mono ?_
        rw [HDN.out]
        rintro e w10 ⟨rfl, rfl⟩
        go_wp2_with fail
        refine (append_k HK9.out ⟨#[122]⟩ (by decide) none 0 0 [] rfl (.inl rfl) (fun x hx => by cases hx) (by rw [HD8.out]; show 1 < 1000000; omega)).mono ?_
        rw [append_down HDN.out]
        rintro e w11 ⟨rfl, hk11, hT11⟩
        have HK11 := Lib.hid hk11
        have HT11 := Lib.hid (HT9.out.trans0 hT11)
        clear hk11 hT11 HK9 HT9
        go_wp2_with fail
        refine (sync_k HK11.out ⟨#[120]⟩ (by decide)).mono ?_
        rw [sync_down HDN.out]
        rintro e w12 ⟨rfl, hk12, hT12⟩
        have HK12 := Lib.hid hk12
        have HT12 := Lib.hid (HT11.out.trans0 hT12)
        clear hk12 hT12 HK11 HT11
        go_wp2_with fail
        refine (rename_k HK12.out ⟨#[120]⟩ ⟨#[122]⟩ (by decide) (by decide)).mono ?_
        rw [rename_down HDN.out]
        rintro e w13 ⟨rfl, hk13, hT13⟩
        have HK13 := Lib.hid hk13
        have HT13 := Lib.hid (HT12.out.trans0 hT13)
        clear hk13 hT13 HK12 HT12
        go_wp2_with fail
        refine (remove_k HK13.out ⟨#[120]⟩ (by decide)).mono ?_
        rw [remove_down HDN.out]
        rintro e w14 ⟨rfl, hk14, hT14⟩
        have HK14 := Lib.hid hk14
        have HT14 := Lib.hid (HT13.out.trans0 hT14)
        clear hk14 hT14 HK13 HT13
        go_wp2_with fail
        refine (list_k HK14.out).mono ?_
        rintro e w15 ⟨a15, c15, rfl, hrow15, hb15⟩
        have HK15 := Lib.hid (HK14.out.below hb15)
        have HT15 := Lib.hid (HT14.out.trans0 (Turn.of_below hb15 _))
        clear hb15 HK14 HT14
        cases done
        · have hl : (namesOf d8) = [[120]] := by rw [HD8.out]; rfl
          rw [hl] at hrow15 ⊢
          obtain ⟨g, rfl, _, _, hg15⟩ := hrow15.at_ (j := 0) (x := encStr [120]) rfl
          have hcell : w15.cell? ⟨g, 0, none⟩ = some (.string ⟨#[120]⟩) := hg15
          clear hrow15 hl hg15
          have hu : used d8.files = k + 2 := by rw [HD8.out]; show used [(_, (ax k, 0))] = _; rw [used_one, ax_length]
          have hw4 : IntKind.i64.wrap ((k : Int) + 4) = (k : Int) + 4 := by rw [IntKind.wrap_i64]; omega
          have hw2 : IntKind.i64.wrap ((k : Int) + 2) = (k : Int) + 2 := by rw [IntKind.wrap_i64]; omega
          go_wp2_with fail
          refine (used_k HK15.out).mono ?_
          rw [hu]
          rintro e w16 ⟨rfl, hb16⟩
          have HK16 := Lib.hid (HK15.out.below hb16)
          have HT16 := Lib.hid (HT15.out.trans0 (Turn.of_below hb16 _))
          clear hb16
          go_wp2_with fail
          go_ret
          exact ⟨rfl, Below.turn (Below.refl _ _) HT16.out (Nat.le_refl _) (fun k h => h.1)⟩
        · have hl : (namesOf d8) = [[121]] := by rw [HD8.out]; rfl
          rw [hl] at hrow15 ⊢
          obtain ⟨g, rfl, _, _, hg15⟩ := hrow15.at_ (j := 0) (x := encStr [121]) rfl
          have hcell : w15.cell? ⟨g, 0, none⟩ = some (.string ⟨#[121]⟩) := hg15
          clear hrow15 hl hg15
          have hu : used d8.files = k + 2 := by rw [HD8.out]; show used [(_, (ax k, 0))] = _; rw [used_one, ax_length]
          have hw4 : IntKind.i64.wrap ((k : Int) + 4) = (k : Int) + 4 := by rw [IntKind.wrap_i64]; omega
          have hw2 : IntKind.i64.wrap ((k : Int) + 2) = (k : Int) + 2 := by rw [IntKind.wrap_i64]; omega
          go_wp2_with fail
          refine (used_k HK15.out).mono ?_
          rw [hu]
          rintro e w16 ⟨rfl, hb16⟩
          have HK16 := Lib.hid (HK15.out.below hb16)
          have HT16 := Lib.hid (HT15.out.trans0 (Turn.of_below hb16 _))
          clear hb16
          go_wp2_with fail
          go_ret
          exact ⟨rfl, Below.turn (Below.refl _ _) HT16.out (Nat.le_refl _) (fun k h => h.1)⟩
      · replace hnm : (kind : Int) % 4 = 3 := hnm
        go_wp2_with fail
        refine (remove_k HKJ.out ⟨#[120]⟩ (by decide)).mono ?_
        rw [show remove (ka (ax k) 0 0 done false) (⟨#[120]⟩ : ByteArray).data.toList = _ from arm_e3 _ _]
        rintro e w8 ⟨rfl, hk8, hT8⟩
        have HK8 := Lib.hid hk8
        have HT8 := Lib.hid (HTJ.out.trans0 hT8)
        clear hk8 hT8 HKJ HTJ
        obtain ⟨d8, hd8⟩ : ∃ d, d = kz (ax k) done := ⟨_, rfl⟩
        simp only [← hd8] at HK8 ⊢
        have hdn : d8.down = true := by rw [hd8]; rfl
        have HDN := Lib.hid hdn
        have HD8 := Lib.hid hd8
        clear hd8 hdn
        go_wp2_with fail
        refine (read_k HK8.out ⟨#[120]⟩ (by decide)).mono ?_
        rw [read_down HDN.out]
        rintro e w9 ⟨a9, c9, rfl, _, hb9⟩
        have HK9 := Lib.hid (HK8.out.below hb9)
        have HT9 := Lib.hid (HT8.out.trans0 (Turn.of_below hb9 _))
        clear hb9 HK8 HT8
        go_wp2_with fail
        refine (down_k HK9.out).mono ?_
        rw [HDN.out]
        rintro e w10 ⟨rfl, rfl⟩
        go_wp2_with fail
        refine (append_k HK9.out ⟨#[122]⟩ (by decide) none 0 0 [] rfl (.inl rfl) (fun x hx => by cases hx) (by rw [HD8.out]; exact kz_few _ _)).mono ?_
        rw [append_down HDN.out]
        rintro e w11 ⟨rfl, hk11, hT11⟩
        have HK11 := Lib.hid hk11
        have HT11 := Lib.hid (HT9.out.trans0 hT11)
        clear hk11 hT11 HK9 HT9
        go_wp2_with fail
        refine (sync_k HK11.out ⟨#[120]⟩ (by decide)).mono ?_
        rw [sync_down HDN.out]
        rintro e w12 ⟨rfl, hk12, hT12⟩
        have HK12 := Lib.hid hk12
        have HT12 := Lib.hid (HT11.out.trans0 hT12)
        clear hk12 hT12 HK11 HT11
        go_wp2_with fail
        refine (rename_k HK12.out ⟨#[120]⟩ ⟨#[122]⟩ (by decide) (by decide)).mono ?_
        rw [rename_down HDN.out]
        rintro e w13 ⟨rfl, hk13, hT13⟩
        have HK13 := Lib.hid hk13
        have HT13 := Lib.hid (HT12.out.trans0 hT13)
        clear hk13 hT13 HK12 HT12
        go_wp2_with fail
        refine (remove_k HK13.out ⟨#[120]⟩ (by decide)).mono ?_
        rw [remove_down HDN.out]
        rintro e w14 ⟨rfl, hk14, hT14⟩
        have HK14 := Lib.hid hk14
        have HT14 := Lib.hid (HT13.out.trans0 hT14)
        clear hk14 hT14 HK13 HT13
        go_wp2_with fail
        refine (list_k HK14.out).mono ?_
        rintro e w15 ⟨a15, c15, rfl, hrow15, hb15⟩
        have HK15 := Lib.hid (HK14.out.below hb15)
        have HT15 := Lib.hid (HT14.out.trans0 (Turn.of_below hb15 _))
        clear hb15 HK14 HT14
        cases done
        · have hl : (namesOf d8) = [[120]] := by rw [HD8.out]; rfl
          rw [hl] at hrow15 ⊢
          obtain ⟨g, rfl, _, _, hg15⟩ := hrow15.at_ (j := 0) (x := encStr [120]) rfl
          have hcell : w15.cell? ⟨g, 0, none⟩ = some (.string ⟨#[120]⟩) := hg15
          clear hrow15 hl hg15
          have hu : used d8.files = k + 2 := by rw [HD8.out]; show used [([120], (ax k, 0))] = _; rw [used_one, ax_length]
          have hw4 : IntKind.i64.wrap ((k : Int) + 4) = (k : Int) + 4 := by rw [IntKind.wrap_i64]; omega
          have hw2 : IntKind.i64.wrap ((k : Int) + 2) = (k : Int) + 2 := by rw [IntKind.wrap_i64]; omega
          go_wp2_with fail
          refine (used_k HK15.out).mono ?_
          rw [hu]
          rintro e w16 ⟨rfl, hb16⟩
          have HK16 := Lib.hid (HK15.out.below hb16)
          have HT16 := Lib.hid (HT15.out.trans0 (Turn.of_below hb16 _))
          clear hb16
          go_wp2_with fail
          go_ret
          exact ⟨rfl, Below.turn (Below.refl _ _) HT16.out (Nat.le_refl _) (fun k h => h.1)⟩
        · have hl : (namesOf d8) = [] := by rw [HD8.out]; rfl
          rw [hl] at hrow15 ⊢
          clear hrow15 hl
          have hu : used d8.files = 0 := by rw [HD8.out]; rfl
          have hw4 : IntKind.i64.wrap ((k : Int) + 4) = (k : Int) + 4 := by rw [IntKind.wrap_i64]; omega
          have hw2 : IntKind.i64.wrap ((k : Int) + 2) = (k : Int) + 2 := by rw [IntKind.wrap_i64]; omega
          go_wp2_with fail
          refine (used_k HK15.out).mono ?_
          rw [hu]
          rintro e w16 ⟨rfl, hb16⟩
          have HK16 := Lib.hid (HK15.out.below hb16)
          have HT16 := Lib.hid (HT15.out.trans0 (Turn.of_below hb16 _))
          clear hb16
          go_wp2_with fail
          go_ret
          exact ⟨rfl, Below.turn (Below.refl _ _) HT16.out (Nat.le_refl _) (fun k h => h.1)⟩
end Go.Proofs.Ytopnhplacdbkdaa
