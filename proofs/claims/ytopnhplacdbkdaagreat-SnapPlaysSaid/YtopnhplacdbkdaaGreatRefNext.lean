/- The walk of the reference's Next. Condition: the slice reads as bytes and is no longer than its capacity. -/
import Derived.Test.YtopnhplacdbkdaaGreatLogRef
import Derived.Deep.RegionWith
namespace Go.Proofs.YtopnhplacdbkdaaGreat
open Go.RowKit

theorem refnumber_eq (a : Option Addr) (n c : Nat) (bs : List UInt8) (w : World) (N : Nat) (hN : CrcM.num (bs.take 4) = N) (hn : bs.length = n) (h4 : 4 ≤ n) (hm : n ≤ 9223372036854775807) (h : Rd w w.heap.size a bs) :
    Calls Tryz.prog 87 #[.slice a n c] w fun e w' => e = .returned (.int .u32 (N : Nat)) ∧ ∃ k, w' = w.drewN k := by
  subst hN; exact refnumber_quiet a n c bs w hn h4 hm h
theorem refcrc_eq (a : Option Addr) (n c : Nat) (bs : List UInt8) (w : World) (C : Nat) (hC : CrcM.crc 0 bs = C) (hn : bs.length = n) (hm : n ≤ 9223372036854775807) (h : Rd w w.heap.size a bs) :
    Calls Tryz.prog 84 #[.int .u32 0, .slice a n c] w fun e w' => e = .returned (.int .u32 (C : Nat)) ∧ w' = w := by
  subst hC; exact (refcrc_zero a n c bs w hn hm h).mono fun _ _ ⟨h1, h2⟩ => ⟨h1, h2.symm⟩

set_option maxRecDepth 100000 in
set_option maxHeartbeats 1000000 in
theorem refnext_short (a : Option Addr) (n c : Nat) (bs : List UInt8) (w : World) (hn : bs.length = n) (h8 : n < 8) :
    Calls Tryz.prog 55 #[.slice a n c] w (NextIs w (LogM.next bs)) := by
  have e : LogM.next bs = ([], 0, 10) := by unfold LogM.next; rw [if_pos (by omega)]
  rw [e]
  clear hn e
  go_enter Tryz.func55, Tryz.ntmps55
  go_wp2_with fail
  go_ret3
  exact NextIs.err (Below.refl _ _)

set_option maxRecDepth 100000 in
set_option maxHeartbeats 1000000 in
theorem refnext_head (a : Option Addr) (n c : Nat) (bs : List UInt8) (w : World) (hn : bs.length = n) (hm : n ≤ 140737488355328) (hc : n ≤ c) (hcm : c ≤ 9223372036854775807) (h : Rd w w.heap.size a bs) (h8 : 8 ≤ n)
    (N4 C4 N0 : Nat) (hN4 : LogM.numAt bs 4 = N4) (hC4 : CrcM.crc 0 (bs.take 4) = C4) (hN0 : LogM.numAt bs 0 = N0) (hN0l : N0 < 4294967296) (hd : ((C4 : Int) != (N4 : Int)) = true) :
    Calls Tryz.prog 55 #[.slice a n c] w fun e w' => e = .returned (.tuple #[.slice none 0 0, .int .i64 0, .int .i64 11]) ∧ Below w.heap.size w w' := by
  have hs1 := fun W => slice_l_b W a n c .i64 4 (by omega) (by omega)
  have hs2 := fun W => slice_h_b W a n c .i64 4 (by omega) (by omega)
  have hcut : Rd w w.heap.size (cutA a c 4 1) (bs.drop 4) := h.cutA (by omega)
  have hfr := h.front 4
  have HN := Lib.hid hn
  have HN4 : Hid (CrcM.num ((bs.drop 4).take 4) = N4) := Lib.hid hN4
  have HN0 : Hid (CrcM.num (bs.take 4) = N0) := Lib.hid hN0
  have HC4 := Lib.hid hC4
  clear hn hN4 hC4 hN0
  go_enter Tryz.func55, Tryz.ntmps55
  go_wp2_with fail
  refine (refnumber_eq a n c bs _ N0 HN0.out HN.out (by omega) (by omega) h).mono ?_
  rintro e w1 ⟨rfl, k, hk⟩
  have hB1 : Below w.heap.size w w1 := by rw [hk]; exact below_drewN (Below.refl _ _) _
  have hcut1 := hcut.step hB1
  have hfr1 := hfr.step hB1
  clear hk hcut hfr h
  go_wp2_with fail
  go_quiet ((first
    | (go_at_call 84; exact Calls.quiet_of_same (refcrc_eq a 4 c (bs.take 4) _ C4 HC4.out (by rw [List.length_take, HN.out]; omega) (by omega) hfr1))
    | (go_at_call 87; exact Calls.quiet_of (refnumber_eq (cutA a c 4 1) (n - 4) (c - 4) (bs.drop 4) _ N4 HN4.out (by rw [List.length_drop, HN.out]) (by omega) (by omega) hcut1))))
  go_wp2_with fail
  go_ret3
  exact ⟨rfl, below_drewN hB1 _⟩

set_option maxRecDepth 100000 in
set_option maxHeartbeats 2000000 in
theorem refnext_mid (a : Option Addr) (n c : Nat) (bs : List UInt8) (w : World) (hn : bs.length = n) (hm : n ≤ 140737488355328) (hc : n ≤ c) (hcm : c ≤ 9223372036854775807) (h : Rd w w.heap.size a bs) (h8 : 8 ≤ n)
    (N4 N0 : Nat) (hN4 : LogM.numAt bs 4 = N4) (hC4 : CrcM.crc 0 (bs.take 4) = N4) (hN0 : LogM.numAt bs 0 = N0) (hN0l : N0 < 4294967296) :
    Calls Tryz.prog 55 #[.slice a n c] w (NextIs w (LogM.next bs)) := by
  have hnx : LogM.next bs = if 65536 < N0 then ([], 0, 11) else if n < N0 + 12 then ([], 0, 10) else if LogM.numAt bs (N0 + 8) ≠ CrcM.crc 0 ((bs.drop 8).take N0) then ([], 0, 11) else ((bs.drop 8).take N0, N0 + 12, 0) := by
    unfold LogM.next LogM.most
    rw [hN4, hC4, hN0, hn, if_neg (by omega)]
    simp
  have HNX := Lib.hid hnx
  clear hnx
  have hs1 := fun W => slice_l_b W a n c .i64 4 (by omega) (by omega)
  have hs2 := fun W => slice_h_b W a n c .i64 4 (by omega) (by omega)
  have hcut : Rd w w.heap.size (cutA a c 4 1) (bs.drop 4) := h.cutA (by omega)
  have hfr := h.front 4
  have hd : ((N4 : Int) != (N4 : Int)) = false := by simp
  have HN := Lib.hid hn
  have HN4 : Hid (CrcM.num ((bs.drop 4).take 4) = N4) := Lib.hid hN4
  have HC4 := Lib.hid hC4
  have HN0 : Hid (CrcM.num (bs.take 4) = N0) := Lib.hid hN0
  clear hn hN4 hC4 hN0
  go_enter Tryz.func55, Tryz.ntmps55
  go_wp2_with fail
  refine (refnumber_eq a n c bs _ N0 HN0.out HN.out (by omega) (by omega) h).mono ?_
  rintro e w1 ⟨rfl, k, hk⟩
  have hB1 : Below w.heap.size w w1 := by rw [hk]; exact below_drewN (Below.refl _ _) _
  have hcut1 := hcut.step hB1
  have hfr1 := hfr.step hB1
  have hr1 := h.step hB1
  clear hk hcut hfr h
  go_wp2_with fail
  go_quiet ((first
    | (go_at_call 84; exact Calls.quiet_of_same (refcrc_eq a 4 c (bs.take 4) _ N4 HC4.out (by rw [List.length_take, HN.out]; omega) (by omega) hfr1))
    | (go_at_call 87; exact Calls.quiet_of (refnumber_eq (cutA a c 4 1) (n - 4) (c - 4) (bs.drop 4) _ N4 HN4.out (by rw [List.length_drop, HN.out]) (by omega) (by omega) hcut1))))
  have hB2 : ∀ k, Below w.heap.size w (w1.drewN k) := fun k => below_drewN hB1 k
  have hr2 : ∀ k, Rd (w1.drewN k) (w1.drewN k).heap.size a bs := fun k => hr1
  have HB2 := Lib.hid hB2
  have HR2 := Lib.hid hr2
  clear hB1 hr1 hcut1 hfr1 hB2 hr2
  generalize hw2 : World.drewN w1 _ = w2
  have hB2 : Below w.heap.size w w2 := by rw [← hw2]; exact HB2.out _
  have hr2 : Rd w2 w2.heap.size a bs := by rw [← hw2]; exact HR2.out _
  clear hw2 HB2 HR2
  by_cases hg : 65536 < N0
  · have hg' : 65536 < (N0 : Int) := by omega
    go_wp2_with fail
    go_ret3
    rw [HNX.out, if_pos hg]
    exact NextIs.err hB2
  have hg' : (N0 : Int) ≤ 65536 := by omega
  by_cases hsh : n < N0 + 12
  · have hsh' : (n : Int) < (N0 : Int) + 12 := by omega
    have HSH := Lib.hid hsh
    clear hsh
    go_wp2_with fail
    go_ret3
    rw [HNX.out, if_neg hg, if_pos HSH.out]
    exact NextIs.err hB2
  · have hsh' : ¬ (n : Int) < (N0 : Int) + 12 := by omega
    have hs3 := fun W => slice_lh_b W a n c .i64 .i64 8 (8 + (N0 : Int)) (by omega) (by omega) (by omega)
    have hs4 := fun W => slice_l_b W a n c .i64 (8 + (N0 : Int)) (by omega) (by omega)
    rw [show (8 + (N0 : Int)).toNat = N0 + 8 by omega] at hs3 hs4
    have hc8 : Rd w2 w2.heap.size (cutA a c 8 1) ((bs.drop 8).take N0) := (hr2.cutA (by rw [HN.out]; exact hc)).front N0
    have hce : Rd w2 w2.heap.size (cutA a c (N0 + 8) 1) (bs.drop (N0 + 8)) := hr2.cutA (by rw [HN.out]; exact hc)
    have hl8 : ((bs.drop 8).take N0).length = N0 := by rw [List.length_take, List.length_drop, HN.out]; omega
    have HL8 := Lib.hid hl8
    obtain ⟨NE, hNE⟩ : ∃ x, CrcM.num ((bs.drop (N0 + 8)).take 4) = x := ⟨_, rfl⟩
    obtain ⟨CE, hCE⟩ : ∃ x, CrcM.crc 0 ((bs.drop 8).take N0) = x := ⟨_, rfl⟩
    have HNE := Lib.hid hNE
    have HCE := Lib.hid hCE
    have HSH := Lib.hid hsh
    clear hsh hl8 hNE hCE
    go_wp2_with fail
    by_cases hq : NE = CE
    · subst hq
      have hd2 : ((NE : Int) != (NE : Int)) = false := by simp
      go_quiet ((first
        | (go_at_call 84; exact Calls.quiet_of_same (refcrc_eq (cutA a c 8 1) N0 (c - 8) ((bs.drop 8).take N0) _ NE HCE.out HL8.out (by omega) hc8))
        | (go_at_call 87; exact Calls.quiet_of (refnumber_eq (cutA a c (N0 + 8) 1) (n - (N0 + 8)) (c - (N0 + 8)) (bs.drop (N0 + 8)) _ NE HNE.out (by rw [List.length_drop, HN.out]) (by omega) (by omega) hce))))
      have hB3 := Lib.hid (fun k => below_drewN hB2 k : ∀ k, Below w.heap.size w (w2.drewN k))
      have hr3 := Lib.hid (fun k => hc8 : ∀ k, Rd (w2.drewN k) (w2.drewN k).heap.size (cutA a c 8 1) ((bs.drop 8).take N0))
      have H2 := Lib.hid hB2.size
      clear hB2 hr2 hc8 hce hs1 hs2 hs4
      generalize hw3 : World.drewN w2 _ = w3
      have hB3' : Below w.heap.size w w3 := by rw [← hw3]; exact hB3.out _
      have hr3' : Rd w3 w3.heap.size (cutA a c 8 1) ((bs.drop 8).take N0) := by rw [← hw3]; exact hr3.out 0
      clear hw3 hB3 hr3 H2
      have hbl : Below w3.heap.size w3 (w3.alloc (.cells #[] 5)) := (Below.refl _ _).alloc (Nat.le_refl _) _
      have hrl := hr3'.below hbl
      have hsl : w3.heap.size ≤ (w3.alloc (.cells #[] 5)).heap.size := by simp
      go_wp2_with (at_builtin; refine wpList_append_b rfl (.tmp 39) (.tmp 43) rfl w3 _ w3.heap.size hbl hsl _ 0 0 [] rfl (Own.lit (B := w3.heap.size) (bs := []) w3 (Nat.le_refl _) #[] rfl (by simp)) _ (cutA a c 8 1) N0 (c - 8) ((bs.drop 8).take N0) rfl hrl HL8.out N0 (by omega) (by omega) ?_; intro a4 c4 w4 ho4 hg4 hb4 hat4)
      go_ret3
      have hfin : LogM.next bs = ((bs.drop 8).take N0, N0 + 12, 0) := by
        rw [HNX.out, if_neg hg, if_neg HSH.out, if_neg]
        intro hne
        exact hne (HNE.out.trans HCE.out.symm)
      rw [List.nil_append] at ho4
      rw [hfin]
      refine ⟨a4, c4, ?_, ?_, Below.next0 hB3' hb4⟩
      · rw [HL8.out]; rfl
      · rw [HL8.out]; exact ho4.lower hB3'.size
    · have hd2 : ((CE : Int) != (NE : Int)) = true := by rw [bne_iff_ne]; omega
      have HQ := Lib.hid hq
      clear hq
      go_quiet ((first
        | (go_at_call 84; exact Calls.quiet_of_same (refcrc_eq (cutA a c 8 1) N0 (c - 8) ((bs.drop 8).take N0) _ CE HCE.out HL8.out (by omega) hc8))
        | (go_at_call 87; exact Calls.quiet_of (refnumber_eq (cutA a c (N0 + 8) 1) (n - (N0 + 8)) (c - (N0 + 8)) (bs.drop (N0 + 8)) _ NE HNE.out (by rw [List.length_drop, HN.out]) (by omega) (by omega) hce))))
      go_wp2_with fail
      go_ret3
      rw [HNX.out, if_neg hg, if_neg HSH.out, if_pos (fun e => HQ.out (HNE.out.symm.trans (e.trans HCE.out)))]
      exact NextIs.err (below_drewN hB2 _)

/-- the record at the beginning of bytes, whatever they are -/
theorem refnext_any (a : Option Addr) (n c : Nat) (bs : List UInt8) (w : World) (hn : bs.length = n) (hm : n ≤ 140737488355328) (hc : n ≤ c) (hcm : c ≤ 9223372036854775807) (h : Rd w w.heap.size a bs) :
    Calls Tryz.prog 55 #[.slice a n c] w (NextIs w (LogM.next bs)) := by
  by_cases h8 : n < 8
  · exact refnext_short a n c bs w hn h8
  have h8' : 8 ≤ n := by omega
  by_cases hq : LogM.numAt bs 4 = CrcM.crc 0 (bs.take 4)
  · exact refnext_mid a n c bs w hn hm hc hcm h h8' _ _ rfl hq.symm rfl (LogM.numAt_lt _ _)
  · have hd : (((CrcM.crc 0 (bs.take 4) : Nat) : Int) != (LogM.numAt bs 4 : Nat)) = true := by rw [bne_iff_ne]; omega
    refine (refnext_head a n c bs w hn hm hc hcm h h8' _ _ _ rfl rfl rfl (LogM.numAt_lt _ _) hd).mono ?_
    rintro e w' ⟨rfl, hb⟩
    have e : LogM.next bs = ([], 0, 11) := by unfold LogM.next; rw [if_neg (by omega), if_pos (.inl hq)]
    rw [e]; exact NextIs.err hb
end Go.Proofs.YtopnhplacdbkdaaGreat
