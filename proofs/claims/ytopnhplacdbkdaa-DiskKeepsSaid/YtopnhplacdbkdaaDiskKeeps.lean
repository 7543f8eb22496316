/- The walk of the statement DiskKeeps. Condition: the arguments read as bytes. -/
import Derived.Test.YtopnhplacdbkdaaDiskKnown
import Derived.Test.YtopnhplacdbkdaaDiskKeepsM
namespace Go.Proofs.Ytopnhplacdbkdaa
open Go.RowKit DiskM Go.Shelf

theorem xor_all (x : UInt8) : bits .xor .u8 (x.toNat : Int) 255 = ((x ^^^ 255).toNat : Int) := by
  rw [show (255 : Int) = ((255 : Nat) : Int) from rfl, u8_xor_nat _ _ (CrcM.u8_lt x) (by omega), UInt8.toNat_xor]
  rfl
theorem get_some {bs : List UInt8} {n i : Nat} (hl : bs.length = n) (hi : i < n) : ∃ x, bs[i]? = some x := ⟨_, List.getElem?_eq_getElem (by omega)⟩
theorem cat_bytes (a b : List UInt8) : (({ data := a.toArray } : ByteArray) ++ ({ data := b.toArray } : ByteArray)) = { data := (a ++ b).toArray } := by
  apply ByteArray.ext
  simp
def blk (a : Option Addr) (k : Nat) : Prop := ∃ ad : Addr, a = some ad ∧ k = ad.block
theorem Own.blk_lt {w : World} {B : Nat} {a : Option Addr} {n c : Nat} {bs : List UInt8} (h : Own w B a n c bs) : ∀ k, blk a k → B ≤ k ∧ k < w.heap.size := by
  rintro k ⟨ad, rfl, rfl⟩
  rcases h.form with ⟨h0, _⟩ | ⟨g, cur, e, h1, h2, _⟩
  · cases h0
  · injection e with e; subst e; exact ⟨h1, h2⟩

set_option maxRecDepth 100000 in
set_option maxHeartbeats 4000000 in
theorem walkDiskKeeps (a : Option Addr) (n c : Nat) (bs : List UInt8) (a' : Option Addr) (n' c' : Nat) (cs : List UInt8) (w : World) (hn : bs.length = n) (_hm : n ≤ 9223372036854775807) (h : Rd w w.heap.size a bs) (_hc : n ≤ c) (_hcm : c ≤ 9223372036854775807)
    (hn' : cs.length = n') (_hm' : n' ≤ 9223372036854775807) (h' : Rd w w.heap.size a' cs) (_hc' : n' ≤ c') (_hcm' : c' ≤ 9223372036854775807) :
    Calls Try.prog 13 #[.slice a n c, .slice a' n' c'] w fun e w' => e = .returned (.bool true) ∧ Below w.heap.size w w' := by
  have HN := Lib.hid hn
  have HN' := Lib.hid hn'
  clear hn hn'
  go_enter Try.func13, Try.ntmps13
  go_wp2_with fail
  refine (diskknown_any w).mono ?_
  rintro e w1 ⟨rfl, hB1⟩
  by_cases h3 : 300 < n
  · have h3' : (300 : Int) < (n : Int) := by omega
    go_wp2_with fail
    go_ret
    exact ⟨rfl, hB1⟩
  by_cases h4 : 300 < n'
  · have h3' : ¬ ((300 : Int) < (n : Int)) := by omega
    have h4' : (300 : Int) < (n' : Int) := by omega
    go_wp2_with fail
    go_ret
    exact ⟨rfl, hB1⟩
  have h3' : ¬ ((300 : Int) < (n : Int)) := by omega
  have h4' : ¬ ((300 : Int) < (n' : Int)) := by omega
  have hr1 := h.step hB1
  have hq1 := h'.step hB1
  have HR := Lib.hid h
  have HQ := Lib.hid h'
  clear h h'
  go_wp2_with fail
  refine (new_k 1000 _ w.heap.size (fun _ => False) hB1.size (fun _ h => h.elim)).mono ?_
  rintro e w2 ⟨p, rfl, hk2, hb2⟩
  have hB2 := Below.next0 hB1 hb2
  have hr2 := hr1.step hb2
  have hq2 := hq1.step hb2
  have HK2 := Lib.hid hk2
  clear hk2 hb2 hr1 hq1 hB1
  have hlx := Own.lit (B := w2.heap.size) (bs := []) w2 (Nat.le_refl _) #[] rfl (by simp)
  have hbx : Below w2.heap.size w2 (w2.alloc (.cells #[] 5)) := (Below.refl _ _).alloc (Nat.le_refl _) _
  have hrx : Rd (w2.alloc (.cells #[] 5)) w2.heap.size a bs := hr2.below hbx
  go_wp2_with (first
    | (at_builtin; refine wpList_append_b rfl (.tmp 29) (.tmp 30) rfl w2 _ w2.heap.size hbx (by simp) _ 0 0 [] rfl hlx _ a n c bs rfl hrx HN.out n (by omega) (by omega) ?_; intro ax cx w3 hox hgx hb3 hatx; have hly := Own.lit (B := w3.heap.size) (bs := []) w3 (Nat.le_refl _) #[] rfl (by simp); have hb3y : Below w2.heap.size w2 (w3.alloc (.cells #[] 5)) := hb3.alloc hb3.size _; have hqy := hq2.below hb3y; have hby : Below w3.heap.size w3 (w3.alloc (.cells #[] 5)) := (Below.refl _ _).alloc (Nat.le_refl _) _)
    | (at_builtin; refine wpList_append_b rfl (.tmp 32) (.tmp 33) rfl w3 _ w3.heap.size hby (by simp) _ 0 0 [] rfl hly _ a' n' c' cs rfl hqy HN'.out n' (by omega) (by omega) ?_; intro ay cy w5 hoy hgy hb5 haty))
  rw [List.nil_append] at hox hoy
  have hB5 : Below w.heap.size w w5 := Below.next0 (Below.next0 hB2 hb3) hb5
  have hox5 := hox.call hb5
  have hs3 := hb3.size
  have hs5 := hb5.size
  have hk5 : DK w5 w.heap.size (fun k => blk ax k ∨ blk ay k) p (fresh 1000) := HK2.out.more (Below.next0 hb3 hb5) (by
    rintro k (hk | hk)
    · have := hox.blk_lt k hk; exact .inr ⟨by omega, by omega⟩
    · have := hoy.blk_lt k hk; exact .inr ⟨by omega, by omega⟩)
  have hap : ∀ k, blk ax k → ¬ blk ay k := fun k h1 h2 => by have := hox.blk_lt k h1; have := hoy.blk_lt k h2; omega
  have HK5 := Lib.hid hk5
  have HAP := Lib.hid hap
  have HB5 := Lib.hid hB5
  have HOX5 := Lib.hid hox5
  have HOY5 := Lib.hid hoy
  have hxw : w.heap.size ≤ w2.heap.size := hB2.size
  have hyw : w.heap.size ≤ w3.heap.size := by omega
  clear hlx hbx hrx hox hgx hb3 hatx hly hb3y hqy hby hoy hgy hb5 haty hap hk5 hox5 HK2 hB5 hr2 hq2 hB2
  refine (append_k HK5.out ⟨#[102]⟩ (by decide) ax n cx bs HN.out (HOX5.out.rd) (fun x hx => .inl (.inl ⟨x, hx, rfl⟩)) (fresh_few _)).mono ?_
  rw [show append (fresh 1000) (⟨#[102]⟩ : ByteArray).data.toList bs = (0, kp bs) from kp_first bs (by have := HN.out; omega)]
  rintro e w6 ⟨rfl, hk6, hT6⟩
  have HK6 := Lib.hid hk6
  have HOX6 := Lib.hid (HOX5.out.turn hT6 fun x hx h => h.2 (.inl ⟨x, hx, rfl⟩))
  have HOY6 := Lib.hid (HOY5.out.turn hT6 fun x hx h => h.2 (.inr ⟨x, hx, rfl⟩))
  have HB6 := Lib.hid (Below.turn HB5.out hT6 HB5.out.size (fun k h => h.1))
  clear hk6 hT6 HK5 HB5 HOX5 HOY5
  go_wp2_with fail
  refine (append_k HK6.out ⟨#[102]⟩ (by decide) ay n' cy cs HN'.out (HOY6.out.rd) (fun x hx => .inl (.inr ⟨x, hx, rfl⟩)) (kp_few _)).mono ?_
  rw [show append (kp bs) (⟨#[102]⟩ : ByteArray).data.toList cs = (0, kp (bs ++ cs)) from kp_second bs cs (by have := HN.out; have := HN'.out; omega)]
  rintro e w7 ⟨rfl, hk7, hT7⟩
  have HK7 := Lib.hid hk7
  have HOX7 := Lib.hid (HOX6.out.turn hT7 fun x hx h => h.2 (.inl ⟨x, hx, rfl⟩))
  have HOY7 := Lib.hid (HOY6.out.turn hT7 fun x hx h => h.2 (.inr ⟨x, hx, rfl⟩))
  have HB7 := Lib.hid (Below.turn HB6.out hT7 HB6.out.size (fun k h => h.1))
  clear hk7 hT7 HK6 HB6 HOX6 HOY6
  go_wp2_with fail
  go_loopw [8] (fun v wr => ∃ (i : Nat) (xs : List UInt8), v = .int .i64 i ∧ i ≤ n ∧ Own wr w2.heap.size ax n cx xs ∧ Turn (blk ax) w7 wr) (fun v _ => n - (intOf v).toNat)
  case atStart => exact ⟨0, _, rfl, Nat.zero_le _, HOX7.out, Turn.refl _ _⟩
  case round =>
    obtain ⟨i, xs, rfl, hi, hown, htn⟩ := hrel
    by_cases hlt : i < n
    · obtain ⟨g, rfl, hgB, hgl⟩ := hown.at_ (by omega)
      obtain ⟨x, hx⟩ := get_some hown.len hlt
      have hcell := hown.cell hx
      have hfr := hown.frozen i
      have hxor := xor_all x
      have hlt' : (i : Int) < (n : Int) := by omega
      have HX := Lib.hid hx
      clear hx
      go_wp2_with fail
      go_roundw
      case rel => exact ⟨i + 1, _, by go_num, by omega, hown.store (x ^^^ 255), htn.trans0 (Turn.setCell _ wr (p := ⟨g, i, none⟩) ⟨_, rfl, rfl⟩ _)⟩
      case measure => simp [intOf]; omega
    · obtain rfl : n = i := by omega
      obtain ⟨w8, hnw⟩ : ∃ x, x = wr := ⟨_, rfl⟩
      subst hnw
      have HK8 := Lib.hid (HK7.out.turn htn (fun k _ hk => .inl (.inl hk)))
      have HOY8 := Lib.hid (HOY7.out.turn htn (fun x hx h => HAP.out _ h ⟨x, hx, rfl⟩))
      have HB8 := Lib.hid (Below.turn HB7.out htn HB7.out.size (fun k hk => by have := hown.blk_lt k hk; omega))
      clear hown htn HK7 HOY7 HB7 HOX7 hi hlt
      go_wp2_with fail
      go_loopw [9] (fun v wr => ∃ (i : Nat) (xs : List UInt8), v = .int .i64 i ∧ i ≤ n' ∧ Own wr w3.heap.size ay n' cy xs ∧ Turn (blk ay) w8 wr) (fun v _ => n' - (intOf v).toNat)
      case atStart => exact ⟨0, _, rfl, Nat.zero_le _, HOY8.out, Turn.refl _ _⟩
      case round =>
        obtain ⟨i, xs, rfl, hi, hown, htn⟩ := hrel
        by_cases hlt : i < n'
        · obtain ⟨g, rfl, hgB, hgl⟩ := hown.at_ (by omega)
          obtain ⟨x, hx⟩ := get_some hown.len hlt
          have hcell := hown.cell hx
          have hfr := hown.frozen i
          have hxor := xor_all x
          have hlt' : (i : Int) < (n' : Int) := by omega
          have HX := Lib.hid hx
          clear hx
          go_wp2_with fail
          go_roundw
          case rel => exact ⟨i + 1, _, by go_num, by omega, hown.store (x ^^^ 255), htn.trans0 (Turn.setCell _ wr (p := ⟨g, i, none⟩) ⟨_, rfl, rfl⟩ _)⟩
          case measure => simp [intOf]; omega
        · obtain rfl : n' = i := by omega
          obtain ⟨w9, hnw⟩ : ∃ x, x = wr := ⟨_, rfl⟩
          subst hnw
          have HK9 := Lib.hid (HK8.out.turn htn (fun k _ hk => .inl (.inr hk)))
          have hB9 := Below.turn HB8.out htn HB8.out.size (fun k hk => by have := hown.blk_lt k hk; omega)
          have hst1 := run_string_b w9 _ a n c bs (HR.out.below hB9) HN.out
          have hst2 := run_string_b w9 _ a' n' c' cs (HQ.out.below hB9) HN'.out
          have HB9 := Lib.hid hB9
          have hsum : ¬ (9223372036854775807 < bs.length + cs.length) := by have := HN.out; have := HN'.out; omega
          have hcat := cat_bytes bs cs
          clear hown htn HK8 HOY8 HB8 hi hlt hB9
          go_wp2_with fail
          refine (read_k HK9.out ⟨#[102]⟩ (by decide)).mono ?_
          rw [show DiskM.read (kp (bs ++ cs)) (⟨#[102]⟩ : ByteArray).data.toList = (bs ++ cs, 0) from kp_read _]
          obtain ⟨T, hT⟩ : ∃ T, T = bs ++ cs := ⟨_, rfl⟩
          have hTL : T.length ≤ 600 := by have := HN.out; have := HN'.out; rw [hT, List.length_append]; omega
          rw [← hT] at HK9 ⊢
          clear hst1 hst2 hsum hcat hT
          rintro e w10 ⟨s, sc, rfl, hown10, hb10⟩
          have hb10' : Below w9.heap.size w9 w10 := hb10
          have hown10' : Own w10 w9.heap.size s T.length sc T := hown10
          have hst10 := run_string_b w10 _ s T.length sc T hown10'.rd rfl
          have HK10 := Lib.hid (HK9.out.more hb10' (S' := blk s) (fun k hk => .inr (hown10'.blk_lt k hk)))
          have HB10 := Lib.hid (Below.next HB9.out hb10' HB9.out.size)
          have HW9 := Lib.hid (show w.heap.size ≤ w9.heap.size from HB9.out.size)
          have HO10 := Lib.hid hown10'
          clear hown10 hown10' hb10 hb10' HK9 HB9
          go_wp2_with fail
          go_loopw [13] (fun v wr => ∃ (i : Nat) (xs : List UInt8), v = .int .i64 i ∧ i ≤ T.length ∧ Own wr w9.heap.size s T.length sc xs ∧ Turn (blk s) w10 wr) (fun v _ => T.length - (intOf v).toNat)
          case atStart => exact ⟨0, _, rfl, Nat.zero_le _, HO10.out, Turn.refl _ _⟩
          case round =>
            obtain ⟨i, xs, rfl, hi, hown, htn⟩ := hrel
            by_cases hlt : i < T.length
            · obtain ⟨g, rfl, hgB, hgl⟩ := hown.at_ (by omega)
              obtain ⟨x, hx⟩ := get_some hown.len hlt
              have hcell := hown.cell hx
              have hfr := hown.frozen i
              have hxor := xor_all x
              have hlt' : (i : Int) < (T.length : Int) := by omega
              have HX := Lib.hid hx
              clear hx
              go_wp2_with fail
              go_roundw
              case rel => exact ⟨i + 1, _, by go_num, by omega, hown.store (x ^^^ 255), htn.trans0 (Turn.setCell _ wr (p := ⟨g, i, none⟩) ⟨_, rfl, rfl⟩ _)⟩
              case measure => simp [intOf]; omega
            · obtain rfl : i = T.length := by omega
              obtain ⟨w11, hnw⟩ : ∃ x, x = wr := ⟨_, rfl⟩
              subst hnw
              have HK11 := Lib.hid (HK10.out.turn htn (fun k _ hk => .inl hk))
              have HB11 := Lib.hid (Below.turn HB10.out htn HB10.out.size (fun k hk => by have := (HO10.out.blk_lt k hk).1; have := HW9.out; omega))
              clear hown htn HK10 HB10 hi hlt HO10 HW9 hst10
              go_wp2_with fail
              refine (read_k HK11.out ⟨#[102]⟩ (by decide)).mono ?_
              rw [show DiskM.read (kp T) (⟨#[102]⟩ : ByteArray).data.toList = (T, 0) from kp_read _]
              rintro e w12 ⟨t, tc, rfl, hown12, hb12⟩
              have hb12' : Below w11.heap.size w11 w12 := hb12
              have hst12 := run_string_b w12 _ t T.length tc T hown12.rd rfl
              have HK12 := Lib.hid (HK11.out.below hb12')
              have HB12 := Lib.hid (Below.next HB11.out hb12' HB11.out.size)
              clear hown12 hb12 hb12' HK11 HB11
              go_wp2_with fail
              refine (used_k HK12.out).mono ?_
              rw [kp_used]
              rintro e w13 ⟨rfl, hb13⟩
              have HB13 := Lib.hid (Below.next HB12.out hb13 HB12.out.size)
              clear hb13 HK12 HB12
              go_wp2_with fail
              go_ret
              exact ⟨rfl, HB13.out⟩
end Go.Proofs.Ytopnhplacdbkdaa
