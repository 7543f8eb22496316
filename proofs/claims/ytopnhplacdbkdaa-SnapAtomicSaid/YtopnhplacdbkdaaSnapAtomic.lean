/- The walk of the statement SnapAtomic. Condition: the arguments read as bytes. -/
import Derived.Test.YtopnhplacdbkdaaSnap
import Derived.Test.YtopnhplacdbkdaaSnapAtomicM
namespace Go.Proofs.Ytopnhplacdbkdaa
open Go.RowKit DiskM Go.Shelf

theorem rd_off {w : World} {B : Nat} {a : Option Addr} {bs : List UInt8} (h : Rd w B a bs) (S : Nat → Prop) : bs = [] ∨ ∀ x, a = some x → S x.block ∨ x.block < B := by
  rcases h with rfl | ⟨b, o, rfl, hb, _⟩
  · exact .inl rfl
  · exact .inr fun x hx => .inr (by injection hx with hx; subst hx; exact hb)

set_option maxRecDepth 100000 in
set_option maxHeartbeats 4000000 in
theorem walkSnapAtomic (a : Option Addr) (n c : Nat) (bs : List UInt8) (a' : Option Addr) (n' c' : Nat) (cs : List UInt8) (calls : Nat) (done : Bool) (ka : Option Addr) (kn kc : Nat) (keep : List UInt8) (w : World) (hn : bs.length = n) (_hm : n ≤ 9223372036854775807) (h : Rd w w.heap.size a bs) (_hc : n ≤ c) (_hcm : c ≤ 9223372036854775807)
    (hn' : cs.length = n') (_hm' : n' ≤ 9223372036854775807) (h' : Rd w w.heap.size a' cs) (_hc' : n' ≤ c') (_hcm' : c' ≤ 9223372036854775807) (hcalls : calls < 256) (hkn : keep.length = kn) (_hkm : kn ≤ 9223372036854775807) (hk : Rd w w.heap.size ka keep) (_hkc : kn ≤ kc) (_hkcm : kc ≤ 9223372036854775807) :
    Calls Try.prog 18 #[.slice a n c, .slice a' n' c', .int .u8 (calls : Int), .bool done, .slice ka kn kc] w fun e w' => e = .returned (.bool true) ∧ Below w.heap.size w w' := by
  have HN := Lib.hid hn
  have HN' := Lib.hid hn'
  have HKN := Lib.hid hkn
  have HR := Lib.hid h
  have HQ := Lib.hid h'
  have HKP := Lib.hid hk
  clear hn hn' h h' hkn hk
  go_enter Try.func18, Try.ntmps18
  go_wp2_with fail
  refine (snapknown_any w).mono ?_
  rintro e w1 ⟨rfl, hB1⟩
  by_cases h3 : 300 < n
  · have h3' : (300 : Int) < (n : Int) := by omega
    go_wp2_with fail
    go_ret
    exact ⟨rfl, hB1⟩
  by_cases h4 : 300 < n'
  · have h3' : ¬ ((300 : Int) < (n : Int)) := by omega
    have h4' : (300 : Int) < (n' : Int) := by omega
    go_wp2_with fail
    go_ret
    exact ⟨rfl, hB1⟩
  have h3' : ¬ ((300 : Int) < (n : Int)) := by omega
  have h4' : ¬ ((300 : Int) < (n' : Int)) := by omega
  obtain ⟨t, ht⟩ : ∃ t, calls % 5 = t := ⟨_, rfl⟩
  have htl : t < 5 := by omega
  have w1_ : (calls : Int) % 5 = (t : Int) := by omega
  have w2_ : IntKind.i64.wrap (t : Int) = (t : Int) := by rw [IntKind.wrap_i64]; omega
  go_wp2_with fail
  refine (new_k 5000 _ w.heap.size (fun _ => False) hB1.size (fun _ h => h.elim)).mono ?_
  rw [show fresh 5000 = ds (st none) 5000 (-1) false false from fresh_ds 5000 (by omega)]
  rintro e w2 ⟨p, rfl, hk2, hb2⟩
  have HK2 := Lib.hid hk2
  have HB2 := Lib.hid (Below.next0 hB1 hb2)
  clear hk2 hb2 hB1 ht
  go_wp2_with fail
  refine (save_k HK2.out ⟨#[115]⟩ (by decide) a n c bs HN.out (by omega) ((HR.out.below HB2.out).more HB2.out.size) (by show 0 < 1000000; omega)).mono ?_
  rw [show save (ds (st none) 5000 (-1) false false) (⟨#[115]⟩ : ByteArray).data.toList bs = (0, ds (st (some (LogM.put bs))) 5000 (-1) false false) from save_go none bs 5000 (-1) false (by have := HN.out; show 0 + (bs.length + 12) ≤ 5000; omega) (by decide) (by decide) (by decide)]
  rintro e w3 ⟨rfl, hk3, hT3⟩
  have HK3 := Lib.hid hk3
  have HB3 := Lib.hid (Below.turn HB2.out hT3 HB2.out.size (fun k h => h.1))
  clear hk3 hT3 HK2 HB2
  go_wp2_with fail
  refine (arm_k HK3.out (t : Int) (by omega) (by omega) done).mono ?_
  rw [show DiskM.arm (ds (st (some (LogM.put bs))) 5000 (-1) false false) (t : Int) done = ds (st (some (LogM.put bs))) 5000 (t : Int) done false from by
    unfold DiskM.arm
    rw [if_neg (show ¬ ((ds (st (some (LogM.put bs))) 5000 (-1) false false).down = true) by show ¬ (false = true); decide), show max (t : Int) (-1) = (t : Int) by omega]; rfl]
  rintro e w4 ⟨rfl, hk4, hT4⟩
  have HK4 := Lib.hid hk4
  have HB4 := Lib.hid (Below.turn HB3.out hT4 HB3.out.size (fun k h => h.1))
  clear hk4 hT4 HK3 HB3
  obtain ⟨z, hz, hcl⟩ := atomic bs cs (by have := HN.out; omega) (by have := HN'.out; omega) t htl done keep
  go_wp2_with fail
  refine (save_k HK4.out ⟨#[115]⟩ (by decide) a' n' c' cs HN'.out (by omega) ((HQ.out.below HB4.out).more HB4.out.size) (by show 1 < 1000000; omega)).mono ?_
  obtain ⟨r, hr⟩ : ∃ r, save (ds (st (some (LogM.put bs))) 5000 (t : Int) done false) [115] cs = r := ⟨_, rfl⟩
  rw [show save (ds (st (some (LogM.put bs))) 5000 (t : Int) done false) (⟨#[115]⟩ : ByteArray).data.toList cs = r from hr]
  rw [hr] at hz hcl
  clear hr w1_ w2_ htl
  rintro e w5 ⟨rfl, hk5, hT5⟩
  have HK5 := Lib.hid hk5
  have HB5 := Lib.hid (Below.turn HB4.out hT5 HB4.out.size (fun k h => h.1))
  have HCL := Lib.hid hcl
  clear hk5 hT5 HK4 HB4 hcl
  obtain ⟨re, rd⟩ := r
  have hzl : z.length ≤ 300 := by
    have := HN.out; have := HN'.out
    rcases hz with ⟨_, rfl⟩ | ⟨_, rfl⟩ | ⟨_, rfl⟩ <;> omega
  have HCL2 := Lib.hid (show clean (crash rd keep) = (0, ds (st (some (LogM.put z))) 5000 (-1) done false) from HCL.out)
  have HK5' := Lib.hid (show DK w5 w.heap.size (fun _ => False) p rd from HK5.out)
  clear HCL HK5
  have hz2 : (re = 0 ∨ re = 15) := by rcases hz with ⟨h, _⟩ | ⟨h, _⟩ | ⟨h, _⟩; exact .inl h; exact .inr h; exact .inr h
  have HZ := Lib.hid hz
  clear hz
  rcases hz2 with rfl | rfl
  · go_wp2_with fail
    refine (crash_k HK5'.out ka kn kc keep HKN.out ((HKP.out.below HB5.out).more HB5.out.size) (rd_off HKP.out (fun _ => False))).mono ?_
    rintro e w6 ⟨rfl, hk6, hT6⟩
    have HK6 := Lib.hid hk6
    have HB6 := Lib.hid (Below.turn HB5.out hT6 HB5.out.size (fun k h => h.1))
    clear hk6 hT6 HK5' HB5
    go_wp2_with fail
    refine (clean_k HK6.out).mono ?_
    rw [HCL2.out]
    rintro e w7 ⟨rfl, hk7, hT7⟩
    have HK7 := Lib.hid hk7
    have HB7 := Lib.hid (Below.turn HB6.out hT7 HB6.out.size (fun k h => h.1))
    clear hk7 hT7 HK6 HB6 HCL2
    go_wp2_with fail
    refine (load_k HK7.out ⟨#[115]⟩ (by decide)).mono ?_
    rw [show DiskM.load (ds (st (some (LogM.put z))) 5000 (-1) done false) (⟨#[115]⟩ : ByteArray).data.toList = (z, 0) from load_one z (by omega) _ (-1) done]
    rintro e w8 ⟨a8, c8, rfl, ho8, hb8⟩
    have HK8 := Lib.hid (HK7.out.below hb8)
    have hB8 := Below.next HB7.out hb8 HB7.out.size
    have hst1 := run_string_b w8 _ a8 z.length c8 z ho8.rd rfl
    have hst2 := run_string_b w8 _ a n c bs (HR.out.below hB8) HN.out
    have hst3 := run_string_b w8 _ a' n' c' cs (HQ.out.below hB8) HN'.out
    have HB8 := Lib.hid hB8
    clear ho8 hb8 hB8 HK7 HB7
    obtain rfl : z = cs := by rcases HZ.out with ⟨_, h⟩ | ⟨h, _⟩ | ⟨h, _⟩; exact h; cases h; cases h
    by_cases hbc : z = bs
    · subst hbc
      go_wp2_with fail
      refine (list_k HK8.out).mono ?_
      rintro e w9 ⟨a9, c9, rfl, _, hb9⟩
      rw [show (namesOf (ds (st (some (LogM.put z))) 5000 (-1) done false)).length = 1 from rfl]
      have HK9 := Lib.hid (HK8.out.below hb9)
      have HB9 := Lib.hid (Below.next HB8.out hb9 HB8.out.size)
      clear hb9 HK8 HB8 hst1 hst2 hst3
      go_wp2_with fail
      refine (save_k HK9.out ⟨#[115]⟩ (by decide) a' n' c' z HN'.out (by omega) ((HQ.out.below HB9.out).more HB9.out.size) (by show 1 < 1000000; omega)).mono ?_
      rw [show save (ds (st (some (LogM.put z))) 5000 (-1) done false) (⟨#[115]⟩ : ByteArray).data.toList z = (0, ds (st (some (LogM.put z))) 5000 (-1) done false) from save_go (some (LogM.put z)) z 5000 (-1) done (by have := HN'.out; show (LogM.put z).length + (z.length + 12) ≤ 5000; rw [LogM.put_length]; omega) (by decide) (by decide) (by decide)]
      rintro e w10 ⟨rfl, hk10, hT10⟩
      have HK10 := Lib.hid hk10
      have HB10 := Lib.hid (Below.turn HB9.out hT10 HB9.out.size (fun k h => h.1))
      clear hk10 hT10 HK9 HB9
      go_wp2_with fail
      refine (load_k HK10.out ⟨#[115]⟩ (by decide)).mono ?_
      rw [show DiskM.load (ds (st (some (LogM.put z))) 5000 (-1) done false) (⟨#[115]⟩ : ByteArray).data.toList = (z, 0) from load_one z (by have := HN'.out; omega) _ (-1) done]
      rintro e w11 ⟨a11, c11, rfl, ho11, hb11⟩
      have hB11 := Below.next HB10.out hb11 HB10.out.size
      have hst4 := run_string_b w11 _ a11 z.length c11 z ho11.rd rfl
      have hst5 := run_string_b w11 _ a' n' c' z (HQ.out.below hB11) HN'.out
      have HB11 := Lib.hid hB11
      clear ho11 hb11 hB11 HK10 HB10
      go_wp2_with fail
      go_ret
      exact ⟨rfl, HB11.out⟩
    · have hne : (z == bs) = false := by rw [beq_dec]; exact decide_eq_false hbc
      have hne2 : (z != bs) = true := by rw [bne, hne]; rfl
      clear hbc
      go_wp2_with fail
      refine (list_k HK8.out).mono ?_
      rintro e w9 ⟨a9, c9, rfl, _, hb9⟩
      rw [show (namesOf (ds (st (some (LogM.put z))) 5000 (-1) done false)).length = 1 from rfl]
      have HK9 := Lib.hid (HK8.out.below hb9)
      have HB9 := Lib.hid (Below.next HB8.out hb9 HB8.out.size)
      clear hb9 HK8 HB8 hst1 hst2 hst3
      go_wp2_with fail
      refine (save_k HK9.out ⟨#[115]⟩ (by decide) a' n' c' z HN'.out (by omega) ((HQ.out.below HB9.out).more HB9.out.size) (by show 1 < 1000000; omega)).mono ?_
      rw [show save (ds (st (some (LogM.put z))) 5000 (-1) done false) (⟨#[115]⟩ : ByteArray).data.toList z = (0, ds (st (some (LogM.put z))) 5000 (-1) done false) from save_go (some (LogM.put z)) z 5000 (-1) done (by have := HN'.out; show (LogM.put z).length + (z.length + 12) ≤ 5000; rw [LogM.put_length]; omega) (by decide) (by decide) (by decide)]
      rintro e w10 ⟨rfl, hk10, hT10⟩
      have HK10 := Lib.hid hk10
      have HB10 := Lib.hid (Below.turn HB9.out hT10 HB9.out.size (fun k h => h.1))
      clear hk10 hT10 HK9 HB9
      go_wp2_with fail
      refine (load_k HK10.out ⟨#[115]⟩ (by decide)).mono ?_
      rw [show DiskM.load (ds (st (some (LogM.put z))) 5000 (-1) done false) (⟨#[115]⟩ : ByteArray).data.toList = (z, 0) from load_one z (by have := HN'.out; omega) _ (-1) done]
      rintro e w11 ⟨a11, c11, rfl, ho11, hb11⟩
      have hB11 := Below.next HB10.out hb11 HB10.out.size
      have hst4 := run_string_b w11 _ a11 z.length c11 z ho11.rd rfl
      have hst5 := run_string_b w11 _ a' n' c' z (HQ.out.below hB11) HN'.out
      have HB11 := Lib.hid hB11
      clear ho11 hb11 hB11 HK10 HB10
      go_wp2_with fail
      go_ret
      exact ⟨rfl, HB11.out⟩
  · go_wp2_with fail
    refine (crash_k HK5'.out ka kn kc keep HKN.out ((HKP.out.below HB5.out).more HB5.out.size) (rd_off HKP.out (fun _ => False))).mono ?_
    rintro e w6 ⟨rfl, hk6, hT6⟩
    have HK6 := Lib.hid hk6
    have HB6 := Lib.hid (Below.turn HB5.out hT6 HB5.out.size (fun k h => h.1))
    clear hk6 hT6 HK5' HB5
    go_wp2_with fail
    refine (clean_k HK6.out).mono ?_
    rw [HCL2.out]
    rintro e w7 ⟨rfl, hk7, hT7⟩
    have HK7 := Lib.hid hk7
    have HB7 := Lib.hid (Below.turn HB6.out hT7 HB6.out.size (fun k h => h.1))
    clear hk7 hT7 HK6 HB6 HCL2
    go_wp2_with fail
    refine (load_k HK7.out ⟨#[115]⟩ (by decide)).mono ?_
    rw [show DiskM.load (ds (st (some (LogM.put z))) 5000 (-1) done false) (⟨#[115]⟩ : ByteArray).data.toList = (z, 0) from load_one z (by omega) _ (-1) done]
    rintro e w8 ⟨a8, c8, rfl, ho8, hb8⟩
    have HK8 := Lib.hid (HK7.out.below hb8)
    have hB8 := Below.next HB7.out hb8 HB7.out.size
    have hst1 := run_string_b w8 _ a8 z.length c8 z ho8.rd rfl
    have hst2 := run_string_b w8 _ a n c bs (HR.out.below hB8) HN.out
    have hst3 := run_string_b w8 _ a' n' c' cs (HQ.out.below hB8) HN'.out
    have HB8 := Lib.hid hB8
    clear ho8 hb8 hB8 HK7 HB7
    have hz3 : z = cs ∨ z = bs := by rcases HZ.out with ⟨h, _⟩ | ⟨_, h⟩ | ⟨_, h⟩; cases h; exact .inl h; exact .inr h
    clear HZ
    by_cases hbc : z = bs
    · subst hbc
      go_wp2_with fail
      refine (list_k HK8.out).mono ?_
      rintro e w9 ⟨a9, c9, rfl, _, hb9⟩
      rw [show (namesOf (ds (st (some (LogM.put z))) 5000 (-1) done false)).length = 1 from rfl]
      have HK9 := Lib.hid (HK8.out.below hb9)
      have HB9 := Lib.hid (Below.next HB8.out hb9 HB8.out.size)
      clear hb9 HK8 HB8 hst1 hst2 hst3
      go_wp2_with fail
      refine (save_k HK9.out ⟨#[115]⟩ (by decide) a' n' c' cs HN'.out (by omega) ((HQ.out.below HB9.out).more HB9.out.size) (by show 1 < 1000000; omega)).mono ?_
      rw [show save (ds (st (some (LogM.put z))) 5000 (-1) done false) (⟨#[115]⟩ : ByteArray).data.toList cs = (0, ds (st (some (LogM.put cs))) 5000 (-1) done false) from save_go (some (LogM.put z)) cs 5000 (-1) done (by have := HN'.out; show (LogM.put z).length + (cs.length + 12) ≤ 5000; rw [LogM.put_length]; omega) (by decide) (by decide) (by decide)]
      rintro e w10 ⟨rfl, hk10, hT10⟩
      have HK10 := Lib.hid hk10
      have HB10 := Lib.hid (Below.turn HB9.out hT10 HB9.out.size (fun k h => h.1))
      clear hk10 hT10 HK9 HB9
      go_wp2_with fail
      refine (load_k HK10.out ⟨#[115]⟩ (by decide)).mono ?_
      rw [show DiskM.load (ds (st (some (LogM.put cs))) 5000 (-1) done false) (⟨#[115]⟩ : ByteArray).data.toList = (cs, 0) from load_one cs (by have := HN'.out; omega) _ (-1) done]
      rintro e w11 ⟨a11, c11, rfl, ho11, hb11⟩
      have hB11 := Below.next HB10.out hb11 HB10.out.size
      have hst4 := run_string_b w11 _ a11 cs.length c11 cs ho11.rd rfl
      have hst5 := run_string_b w11 _ a' n' c' cs (HQ.out.below hB11) HN'.out
      have HB11 := Lib.hid hB11
      clear ho11 hb11 hB11 HK10 HB10
      go_wp2_with fail
      go_ret
      exact ⟨rfl, HB11.out⟩
    · obtain rfl : z = cs := hz3.resolve_right hbc
      have hne : (z == bs) = false := by rw [beq_dec]; exact decide_eq_false hbc
      have hne2 : (z != bs) = true := by rw [bne, hne]; rfl
      clear hbc hz3
      go_wp2_with fail
      refine (list_k HK8.out).mono ?_
      rintro e w9 ⟨a9, c9, rfl, _, hb9⟩
      rw [show (namesOf (ds (st (some (LogM.put z))) 5000 (-1) done false)).length = 1 from rfl]
      have HK9 := Lib.hid (HK8.out.below hb9)
      have HB9 := Lib.hid (Below.next HB8.out hb9 HB8.out.size)
      clear hb9 HK8 HB8 hst1 hst2 hst3
      go_wp2_with fail
      refine (save_k HK9.out ⟨#[115]⟩ (by decide) a' n' c' z HN'.out (by omega) ((HQ.out.below HB9.out).more HB9.out.size) (by show 1 < 1000000; omega)).mono ?_
      rw [show save (ds (st (some (LogM.put z))) 5000 (-1) done false) (⟨#[115]⟩ : ByteArray).data.toList z = (0, ds (st (some (LogM.put z))) 5000 (-1) done false) from save_go (some (LogM.put z)) z 5000 (-1) done (by have := HN'.out; show (LogM.put z).length + (z.length + 12) ≤ 5000; rw [LogM.put_length]; omega) (by decide) (by decide) (by decide)]
      rintro e w10 ⟨rfl, hk10, hT10⟩
      have HK10 := Lib.hid hk10
      have HB10 := Lib.hid (Below.turn HB9.out hT10 HB9.out.size (fun k h => h.1))
      clear hk10 hT10 HK9 HB9
      go_wp2_with fail
      refine (load_k HK10.out ⟨#[115]⟩ (by decide)).mono ?_
      rw [show DiskM.load (ds (st (some (LogM.put z))) 5000 (-1) done false) (⟨#[115]⟩ : ByteArray).data.toList = (z, 0) from load_one z (by have := HN'.out; omega) _ (-1) done]
      rintro e w11 ⟨a11, c11, rfl, ho11, hb11⟩
      have hB11 := Below.next HB10.out hb11 HB10.out.size
      have hst4 := run_string_b w11 _ a11 z.length c11 z ho11.rd rfl
      have hst5 := run_string_b w11 _ a' n' c' z (HQ.out.below hB11) HN'.out
      have HB11 := Lib.hid hB11
      clear ho11 hb11 hB11 HK10 HB10
      go_wp2_with fail
      go_ret
      exact ⟨rfl, HB11.out⟩
end Go.Proofs.Ytopnhplacdbkdaa
