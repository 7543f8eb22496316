/- The walk of the statement SnapSpoilt. Condition: the argument reads as bytes. -/
import Derived.Test.YtopnhplacdbkdaaSnap
import Derived.Test.YtopnhplacdbkdaaDiskFlip
import Derived.Test.YtopnhplacdbkdaaSnapSpoiltM
namespace Go.Proofs.Ytopnhplacdbkdaa
open Go.RowKit DiskM Go.Shelf

theorem flip_k {w : World} {B : Nat} {S : Nat → Prop} {p : Nat} {d : DS} (h : DK w B S p d) (s : ByteArray) (hso : (DiskM.look s.data.toList d.files).isSome = true) (at_ m : Nat) (h32 : at_ + 32 ≤ 8 * (DiskM.old d s.data.toList).1.length) (hm0 : m ≠ 0) (hml : m < 4294967296) :
    Calls Try.prog 58 #[.pointer (some ⟨p, 0, none⟩), .string s, .int .i64 (at_ : Int), .int .u32 (m : Int)] w fun e w' => e = .returned (.bool true) ∧ DK w' B S p (flip d s.data.toList at_ m) ∧ Turn (off B S) w w' := by
  obtain ⟨⟨fp, h, hf⟩, hs, hB⟩ := h
  refine (flip_any h s hso at_ m h32 hm0 hml).mono ?_
  rintro e w' ⟨rfl, fp', h1, h2, h3⟩
  obtain ⟨k1, k2⟩ := kept_of hf hs hB h1 h2 h3
  exact ⟨rfl, k1, k2⟩

set_option maxRecDepth 100000 in
set_option maxHeartbeats 4000000 in
theorem walkSnapSpoilt (a : Option Addr) (n c : Nat) (bs : List UInt8) (at_ m how : Nat) (w : World) (hn : bs.length = n) (_hm : n ≤ 9223372036854775807) (h : Rd w w.heap.size a bs) (_hc : n ≤ c) (_hcm : c ≤ 9223372036854775807) (hat : at_ < 65536) (hml : m < 4294967296) (hhow : how < 256) :
    Calls Try.prog 17 #[.slice a n c, .int .u16 (at_ : Int), .int .u32 (m : Int), .int .u8 (how : Int)] w fun e w' => e = .returned (.bool true) ∧ Below w.heap.size w w' := by
  have HN := Lib.hid hn
  have HR := Lib.hid h
  clear hn h
  go_enter Try.func17, Try.ntmps17
  go_wp2_with fail
  refine (snapknown_any w).mono ?_
  rintro e w1 ⟨rfl, hB1⟩
  by_cases h3 : 300 < n
  · have h3' : (300 : Int) < (n : Int) := by omega
    go_wp2_with fail
    go_ret
    exact ⟨rfl, hB1⟩
  have h3' : ¬ ((300 : Int) < (n : Int)) := by omega
  by_cases h4 : m = 0
  · subst h4
    go_wp2_with fail
    go_ret
    exact ⟨rfl, hB1⟩
  have h4' : ((m : Int) == 0) = false := by rw [beq_eq_false_iff_ne]; omega
  have h4'' : ¬ ((m : Int) = 0) := by omega
  go_wp2_with fail
  refine (new_k 5000 _ w.heap.size (fun _ => False) hB1.size (fun _ h => h.elim)).mono ?_
  rw [show fresh 5000 = ds (st none) 5000 (-1) false false from fresh_ds 5000 (by omega)]
  rintro e w2 ⟨p, rfl, hk2, hb2⟩
  have HK2 := Lib.hid hk2
  have HB2 := Lib.hid (Below.next0 hB1 hb2)
  clear hk2 hb2 hB1
  go_wp2_with fail
  refine (save_k HK2.out ⟨#[115]⟩ (by decide) a n c bs HN.out (by omega) ((HR.out.below HB2.out).more HB2.out.size) (by show 0 < 1000000; omega)).mono ?_
  rw [show save (ds (st none) 5000 (-1) false false) (⟨#[115]⟩ : ByteArray).data.toList bs = (0, sp (LogM.put bs) (LogM.put bs).length) from save_go none bs 5000 (-1) false (by have := HN.out; show 0 + (bs.length + 12) ≤ 5000; omega) (by decide) (by decide) (by decide)]
  rintro e w3 ⟨rfl, hk3, hT3⟩
  have HK3 := Lib.hid hk3
  have HB3 := Lib.hid (Below.turn HB2.out hT3 HB2.out.size (fun k h => h.1))
  clear hk3 hT3 HK2 HB2
  have hpl : (LogM.put bs).length = n + 12 := by rw [LogM.put_length, HN.out]
  have hbl : bs.length ≤ 300 := by have := HN.out; omega
  have HPL := Lib.hid hpl
  clear hpl
  obtain ⟨q, hq⟩ : ∃ q, how % 3 = q := ⟨_, rfl⟩
  have hql : q < 3 := by omega
  have w1_ : (how : Int) % 3 = (q : Int) := by omega
  have w2_ : IntKind.i64.wrap (at_ : Int) = (at_ : Int) := by rw [IntKind.wrap_i64]; omega
  have w3_ : IntKind.i64.wrap ((n : Int) + 12) = (n : Int) + 12 := by rw [IntKind.wrap_i64]; omega
  rcases (by omega : q = 0 ∨ q = 1 ∨ q = 2) with rfl | rfl | rfl
  · replace w1_ : (how : Int) % 3 = 0 := w1_
    obtain ⟨N, hN⟩ : ∃ N, 8 * (n + 12) - 31 = N := ⟨_, rfl⟩
    obtain ⟨t, ht⟩ : ∃ t, at_ % N = t := ⟨_, rfl⟩
    have htl : t < N := by rw [← ht]; exact Nat.mod_lt _ (by omega)
    have w4_ : IntKind.i64.wrap (8 * ((n : Int) + 12)) = 8 * ((n : Int) + 12) := by rw [IntKind.wrap_i64]; omega
    have w5_ : IntKind.i64.wrap (8 * ((n : Int) + 12) - 31) = (N : Int) := by rw [IntKind.wrap_i64]; omega
    have w6_ : ((at_ : Int)).tmod (N : Int) = (t : Int) := by rw [← Int.ofNat_tmod, ht]
    have w7_ : (at_ : Int) % (N : Int) = (t : Int) := by rw [← Int.natCast_emod, ht]
    have w9_ : ¬ ((N : Int) = 0) := by omega
    go_wp2_with fail
    refine (flip_k HK3.out ⟨#[115]⟩ rfl t m (by show t + 32 ≤ 8 * (LogM.put bs).length; rw [HPL.out]; omega) h4 hml).mono ?_
    rw [show flip (sp (LogM.put bs) (LogM.put bs).length) (⟨#[115]⟩ : ByteArray).data.toList t m = sp (CrcM.turn (LogM.put bs) t m 32) (LogM.put bs).length from rfl]
    rintro e w4 ⟨rfl, hk4, hT4⟩
    have HK4 := Lib.hid hk4
    have HB4 := Lib.hid (Below.turn HB3.out hT4 HB3.out.size (fun k h => h.1))
    clear hk4 hT4 HK3 HB3
    go_wp2_with fail
    refine (load_k HK4.out ⟨#[115]⟩ (by decide)).mono ?_
    rw [show DiskM.load (sp (CrcM.turn (LogM.put bs) t m 32) (LogM.put bs).length) (⟨#[115]⟩ : ByteArray).data.toList = ([], 11) from bad_turn bs hbl t m hml h4 (by have := HN.out; omega) _]
    rintro e w5 ⟨a5, c5, rfl, _, hb5⟩
    have HB5 := Lib.hid (Below.next HB4.out hb5 HB4.out.size)
    clear hb5 HK4 HB4
    go_wp2_with fail
    go_ret
    exact ⟨rfl, HB5.out⟩
  · replace w1_ : (how : Int) % 3 = 1 := w1_
    go_wp2_with fail
    have hb4 : Below w3.heap.size w3 (w3.alloc (.cells #[.int .u8 7] 5)) := (Below.refl _ _).alloc (Nat.le_refl _) _
    refine (append_new HK3.out hb4 ⟨#[115]⟩ (by decide) _ 1 1 [7] rfl (Rd.new w3 #[.int .u8 7] 5 (0, 0) [7] rfl |>.more (by simp)) (fun x hx => by injection hx with hx; subst hx; exact ⟨Nat.le_refl _, by simp⟩) (by show 1 < 1000000; omega)).mono ?_
    rw [show append (sp (LogM.put bs) (LogM.put bs).length) (⟨#[115]⟩ : ByteArray).data.toList [7] = (0, sp (LogM.put bs ++ [7]) (LogM.put bs).length) from sp_app _ _ _ (by rw [HPL.out]; show n + 12 + 1 ≤ 5000; omega)]
    rintro e w4 ⟨rfl, hk4, hT4⟩
    have HK4 := Lib.hid hk4
    have HB4 := Lib.hid (Below.turn (Below.next HB3.out hb4 HB3.out.size) hT4 (Below.next HB3.out hb4 HB3.out.size).size (fun k h => h.1))
    clear hk4 hT4 HK3 HB3 hb4
    go_wp2_with fail
    refine (load_k HK4.out ⟨#[115]⟩ (by decide)).mono ?_
    rw [show DiskM.load (sp (LogM.put bs ++ [7]) (LogM.put bs).length) (⟨#[115]⟩ : ByteArray).data.toList = ([], 11) from bad_more bs hbl _]
    rintro e w5 ⟨a5, c5, rfl, _, hb5⟩
    have HB5 := Lib.hid (Below.next HB4.out hb5 HB4.out.size)
    clear hb5 HK4 HB4
    go_wp2_with fail
    go_ret
    exact ⟨rfl, HB5.out⟩
  · replace w1_ : (how : Int) % 3 = 2 := w1_
    obtain ⟨N, hN⟩ : ∃ N, n + 12 = N := ⟨_, rfl⟩
    obtain ⟨t, ht⟩ : ∃ t, at_ % N = t := ⟨_, rfl⟩
    have htl : t < N := by rw [← ht]; exact Nat.mod_lt _ (by omega)
    have w6_ : ((at_ : Int)).tmod (N : Int) = (t : Int) := by rw [← Int.ofNat_tmod, ht]
    have w7_ : (at_ : Int) % (N : Int) = (t : Int) := by rw [← Int.natCast_emod, ht]
    have w9_ : ¬ ((N : Int) = 0) := by omega
    replace w3_ : IntKind.i64.wrap ((n : Int) + 12) = (N : Int) := by rw [w3_]; omega
    go_wp2_with fail
    refine (read_k HK3.out ⟨#[115]⟩ (by decide)).mono ?_
    rw [show DiskM.read (sp (LogM.put bs) (LogM.put bs).length) (⟨#[115]⟩ : ByteArray).data.toList = (LogM.put bs, 0) from sp_read _ _]
    rintro e w4 ⟨a4, c4, rfl, ho4, hb4⟩
    have HO4 := Lib.hid (show Own w4 w3.heap.size a4 N c4 (LogM.put bs) by rw [← hN, ← HPL.out]; exact ho4)
    rw [show ((LogM.put bs, 0) : List UInt8 × Nat).1.length = N from HPL.out.trans hN]
    have HK4 := Lib.hid (HK3.out.more hb4 (S' := blk a4) (fun k hk => .inr (HO4.out.blk_lt k hk)))
    have HB4 := Lib.hid (Below.next HB3.out hb4 HB3.out.size)
    clear ho4 hb4 HK3 HB3
    go_wp2_with fail
    refine (remove_k HK4.out ⟨#[115]⟩ (by decide)).mono ?_
    rw [show remove (sp (LogM.put bs) (LogM.put bs).length) (⟨#[115]⟩ : ByteArray).data.toList = (0, ds [] 5000 (-1) false false) from sp_rem _ _]
    rintro e w5 ⟨rfl, hk5, hT5⟩
    have HK5 := Lib.hid hk5
    have HB5 := Lib.hid (Below.turn HB4.out hT5 HB4.out.size (fun k h => h.1))
    have HO5 := Lib.hid (HO4.out.turn hT5 (fun x hx h => h.2 ⟨x, hx, rfl⟩))
    clear hk5 hT5 HK4 HB4
    have hcap : N ≤ c4 ∧ c4 ≤ maxLen := HO5.out.cap
    unfold maxLen at hcap
    go_wp2_with fail
    have hrd5 : Rd w5 w5.heap.size a4 ((LogM.put bs).take t) := by
      rcases HO5.out.rd with h0 | ⟨b, o, rfl, hb, hc⟩
      · exact .inl (by rw [h0]; simp)
      · exact .inr ⟨b, o, rfl, hb, fun j x hx => hc j x (by rw [List.getElem?_take] at hx; split at hx; exact hx; cases hx)⟩
    have htk : ((LogM.put bs).take t).length = t := by rw [List.length_take, HPL.out]; omega
    refine (append_k HK5.out ⟨#[115]⟩ (by decide) a4 t c4 ((LogM.put bs).take t) htk hrd5 (fun x hx => .inl ⟨x, hx, rfl⟩) (by show 0 < 1000000; omega)).mono ?_
    rw [show append (ds [] 5000 (-1) false false) (⟨#[115]⟩ : ByteArray).data.toList ((LogM.put bs).take t) = (0, sp ((LogM.put bs).take t) 0) from nil_app _ (by rw [htk]; omega)]
    rintro e w6 ⟨rfl, hk6, hT6⟩
    have HK6 := Lib.hid hk6
    have HB6 := Lib.hid (Below.turn HB5.out hT6 HB5.out.size (fun k h => h.1))
    clear hk6 hT6 HK5 HB5 hrd5 htk HO5 HO4
    go_wp2_with fail
    refine (load_k HK6.out ⟨#[115]⟩ (by decide)).mono ?_
    rw [show DiskM.load (sp ((LogM.put bs).take t) 0) (⟨#[115]⟩ : ByteArray).data.toList = ([], 11) from bad_torn bs hbl t (by have := HN.out; omega) _]
    rintro e w7 ⟨a7, c7, rfl, _, hb7⟩
    have HB7 := Lib.hid (Below.next HB6.out hb7 HB6.out.size)
    clear hb7 HK6 HB6
    go_wp2_with fail
    go_ret
    exact ⟨rfl, HB7.out⟩
end Go.Proofs.Ytopnhplacdbkdaa
