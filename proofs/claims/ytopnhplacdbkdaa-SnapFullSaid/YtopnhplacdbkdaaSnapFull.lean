/- The walk of the statement SnapFull. Condition: the arguments read as bytes. -/
import Derived.Test.YtopnhplacdbkdaaSnap
namespace Go.Proofs.Ytopnhplacdbkdaa
open Go.RowKit DiskM Go.Shelf

set_option maxRecDepth 100000 in
set_option maxHeartbeats 4000000 in
theorem walkSnapFull (a : Option Addr) (n c : Nat) (bs : List UInt8) (a' : Option Addr) (n' c' : Nat) (cs : List UInt8) (less : Nat) (w : World) (hn : bs.length = n) (_hm : n ≤ 9223372036854775807) (h : Rd w w.heap.size a bs) (_hc : n ≤ c) (_hcm : c ≤ 9223372036854775807)
    (hn' : cs.length = n') (_hm' : n' ≤ 9223372036854775807) (h' : Rd w w.heap.size a' cs) (_hc' : n' ≤ c') (_hcm' : c' ≤ 9223372036854775807) (hless : less < 256) :
    Calls Try.prog 16 #[.slice a n c, .slice a' n' c', .int .u8 (less : Int)] w fun e w' => e = .returned (.bool true) ∧ Below w.heap.size w w' := by
  have HN := Lib.hid hn
  have HN' := Lib.hid hn'
  have HR := Lib.hid h
  have HQ := Lib.hid h'
  clear hn hn' h h'
  go_enter Try.func16, Try.ntmps16
  go_wp2_with fail
  refine (snapknown_any w).mono ?_
  rintro e w1 ⟨rfl, hB1⟩
  by_cases h3 : 300 < n
  · have h3' : (300 : Int) < (n : Int) := by omega
    go_wp2_with fail
    go_ret
    exact ⟨rfl, hB1⟩
  by_cases h4 : 300 < n'
  · have h3' : ¬ ((300 : Int) < (n : Int)) := by omega
    have h4' : (300 : Int) < (n' : Int) := by omega
    go_wp2_with fail
    go_ret
    exact ⟨rfl, hB1⟩
  have h3' : ¬ ((300 : Int) < (n : Int)) := by omega
  have h4' : ¬ ((300 : Int) < (n' : Int)) := by omega
  obtain ⟨t, ht⟩ : ∃ t, less % (n' + 12) = t := ⟨_, rfl⟩
  have htl : t < n' + 12 := by rw [← ht]; exact Nat.mod_lt _ (by omega)
  obtain ⟨N, hN⟩ : ∃ N, n + n' + 24 = N := ⟨_, rfl⟩
  obtain ⟨R, hR⟩ : ∃ R, N - 1 - t = R := ⟨_, rfl⟩
  have w1_ : IntKind.i64.wrap ((n : Int) + (n' : Int)) = (n : Int) + n' := by rw [IntKind.wrap_i64]; omega
  have w2_ : IntKind.i64.wrap ((n : Int) + (n' : Int) + 24) = (N : Int) := by rw [IntKind.wrap_i64]; omega
  have w3_ : IntKind.i64.wrap ((N : Int) - 1) = (N : Int) - 1 := by rw [IntKind.wrap_i64]; omega
  have w4_ : IntKind.i64.wrap (less : Int) = less := by rw [IntKind.wrap_i64]; omega
  have w5_ : IntKind.i64.wrap ((n' : Int) + 12) = (n' : Int) + 12 := by rw [IntKind.wrap_i64]; omega
  have w6_ : ((less : Int)).tmod ((n' : Int) + 12) = (t : Int) := by rw [← ht, show ((n' : Int) + 12) = ((n' + 12 : Nat) : Int) by omega, Int.ofNat_tmod]
  have w7_ : (less : Int) % ((n' : Int) + 12) = (t : Int) := by rw [← ht, show ((n' : Int) + 12) = ((n' + 12 : Nat) : Int) by omega, ← Int.natCast_emod]
  have w8_ : IntKind.i64.wrap ((N : Int) - 1 - t) = (R : Int) := by rw [IntKind.wrap_i64]; omega
  have w9_ : ¬ ((n' : Int) + 12 = 0) := by omega
  go_wp2_with fail
  refine (new_k (R : Int) _ w.heap.size (fun _ => False) hB1.size (fun _ h => h.elim)).mono ?_
  rw [fresh_ds R (by omega)]
  rintro e w2 ⟨p, rfl, hk2, hb2⟩
  have HK2 := Lib.hid hk2
  have HB2 := Lib.hid (Below.next0 hB1 hb2)
  clear hk2 hb2 hB1 w1_ w2_ w3_ w4_ w6_ w7_ w8_ w9_ ht
  go_wp2_with fail
  refine (save_k HK2.out ⟨#[115]⟩ (by decide) a n c bs HN.out (by omega) ((HR.out.below HB2.out).more HB2.out.size) (by show 0 < 1000000; omega)).mono ?_
  rw [show save (ds (st none) R (-1) false false) (⟨#[115]⟩ : ByteArray).data.toList bs = (0, ds (st (some (LogM.put bs))) R (-1) false false) from save_go none bs R (-1) false (by have := HN.out; show 0 + (bs.length + 12) ≤ R; omega) (by decide) (by decide) (by decide)]
  rintro e w3 ⟨rfl, hk3, hT3⟩
  have HK3 := Lib.hid hk3
  have HB3 := Lib.hid (Below.turn HB2.out hT3 HB2.out.size (fun k h => h.1))
  clear hk3 hT3 HK2 HB2
  go_wp2_with fail
  refine (save_k HK3.out ⟨#[115]⟩ (by decide) a' n' c' cs HN'.out (by omega) ((HQ.out.below HB3.out).more HB3.out.size) (by show 1 < 1000000; omega)).mono ?_
  rw [show save (ds (st (some (LogM.put bs))) R (-1) false false) (⟨#[115]⟩ : ByteArray).data.toList cs = (14, ds (st (some (LogM.put bs))) R (-1) false false) from save_full (some (LogM.put bs)) cs R (-1) false (by have := HN.out; have := HN'.out; show R < (LogM.put bs).length + (cs.length + 12); rw [LogM.put_length]; omega)]
  rintro e w4 ⟨rfl, hk4, hT4⟩
  have HK4 := Lib.hid hk4
  have HB4 := Lib.hid (Below.turn HB3.out hT4 HB3.out.size (fun k h => h.1))
  clear hk4 hT4 HK3 HB3
  go_wp2_with fail
  refine (load_k HK4.out ⟨#[115]⟩ (by decide)).mono ?_
  rw [show DiskM.load (ds (st (some (LogM.put bs))) R (-1) false false) (⟨#[115]⟩ : ByteArray).data.toList = (bs, 0) from load_one bs (by have := HN.out; omega) R (-1) false]
  rintro e w5 ⟨a5, c5, rfl, ho5, hb5⟩
  have HK5 := Lib.hid (HK4.out.below hb5)
  have hB5 := Below.next HB4.out hb5 HB4.out.size
  have hst1 := run_string_b w5 _ a5 bs.length c5 bs ho5.rd rfl
  have hst2 := run_string_b w5 _ a n c bs (HR.out.below hB5) HN.out
  have HB5 := Lib.hid hB5
  clear ho5 hb5 hB5 HK4 HB4
  go_wp2_with fail
  refine (list_k HK5.out).mono ?_
  rintro e w6 ⟨a6, c6, rfl, _, hb6⟩
  rw [show (namesOf (ds (st (some (LogM.put bs))) R (-1) false false)).length = 1 from rfl]
  have HK6 := Lib.hid (HK5.out.below hb6)
  have HB6 := Lib.hid (Below.next HB5.out hb6 HB5.out.size)
  clear hb6 HK5 HB5 hst1 hst2
  go_wp2_with fail
  refine (grow_k HK6.out _).mono ?_
  rw [grow_ds _ R _ _ _ N (by omega)]
  rintro e w7 ⟨rfl, hk7, hT7⟩
  have HK7 := Lib.hid hk7
  have HB7 := Lib.hid (Below.turn HB6.out hT7 HB6.out.size (fun k h => h.1))
  clear hk7 hT7 HK6 HB6
  go_wp2_with fail
  refine (save_k HK7.out ⟨#[115]⟩ (by decide) a' n' c' cs HN'.out (by omega) ((HQ.out.below HB7.out).more HB7.out.size) (by show 1 < 1000000; omega)).mono ?_
  rw [show save (ds (st (some (LogM.put bs))) N (-1) false false) (⟨#[115]⟩ : ByteArray).data.toList cs = (0, ds (st (some (LogM.put cs))) N (-1) false false) from save_go (some (LogM.put bs)) cs _ (-1) false (by have := HN.out; have := HN'.out; show (LogM.put bs).length + (cs.length + 12) ≤ _; rw [LogM.put_length]; omega) (by decide) (by decide) (by decide)]
  rintro e w8 ⟨rfl, hk8, hT8⟩
  have HK8 := Lib.hid hk8
  have HB8 := Lib.hid (Below.turn HB7.out hT8 HB7.out.size (fun k h => h.1))
  clear hk8 hT8 HK7 HB7
  go_wp2_with fail
  refine (load_k HK8.out ⟨#[115]⟩ (by decide)).mono ?_
  rw [show DiskM.load (ds (st (some (LogM.put cs))) N (-1) false false) (⟨#[115]⟩ : ByteArray).data.toList = (cs, 0) from load_one cs (by have := HN'.out; omega) _ (-1) false]
  rintro e w9 ⟨a9, c9, rfl, ho9, hb9⟩
  have HK9 := Lib.hid (HK8.out.below hb9)
  have hB9 := Below.next HB8.out hb9 HB8.out.size
  have hst1 := run_string_b w9 _ a9 cs.length c9 cs ho9.rd rfl
  have hst2 := run_string_b w9 _ a' n' c' cs (HQ.out.below hB9) HN'.out
  have HB9 := Lib.hid hB9
  clear ho9 hb9 hB9 HK8 HB8
  go_wp2_with fail
  refine (used_k HK9.out).mono ?_
  rw [show used (ds (st (some (LogM.put cs))) N (-1) false false).files = n' + 12 by show used (st (some (LogM.put cs))) = _; rw [used_st]; show (LogM.put cs).length = _; rw [LogM.put_length, HN'.out]]
  rintro e w10 ⟨rfl, hb10⟩
  have HK10 := Lib.hid (HK9.out.below hb10)
  have HB10 := Lib.hid (Below.next HB9.out hb10 HB9.out.size)
  clear hb10 HK9 HB9 hst1 hst2
  go_wp2_with fail
  refine (list_k HK10.out).mono ?_
  rintro e w11 ⟨a11, c11, rfl, _, hb11⟩
  rw [show (namesOf (ds (st (some (LogM.put cs))) N (-1) false false)).length = 1 from rfl]
  have HB11 := Lib.hid (Below.next HB10.out hb11 HB10.out.size)
  clear hb11 HK10 HB10
  go_wp2_with fail
  go_ret
  exact ⟨rfl, HB11.out⟩
end Go.Proofs.Ytopnhplacdbkdaa
