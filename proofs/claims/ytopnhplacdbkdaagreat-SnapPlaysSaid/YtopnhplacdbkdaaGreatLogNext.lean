/- The walk of log.Next. Condition: the slice reads as bytes and is no longer than its capacity. -/
import Derived.Test.YtopnhplacdbkdaaGreatLogB
import Derived.Deep.RegionHeld3
import Derived.Deep.RegionWith
namespace Go.Proofs.YtopnhplacdbkdaaGreat
open Go.RowKit

/-- what log.Next hands back -/
def NextIs (w0 : World) (r : List UInt8 × Nat × Nat) (e : Ending) (w' : World) : Prop :=
  ∃ a' c', e = .returned (.tuple #[.slice a' r.1.length c', .int .i64 (r.2.1 : Int), .int .i64 (r.2.2 : Int)]) ∧ Own w' w0.heap.size a' r.1.length c' r.1 ∧ Below w0.heap.size w0 w'
theorem NextIs.err {w0 w' : World} {k : Nat} (hb : Below w0.heap.size w0 w') : NextIs w0 ([], 0, k) (.returned (.tuple #[.slice none 0 0, .int .i64 0, .int .i64 (k : Int)])) w' := ⟨none, 0, rfl, Own.nil_ _ _, hb⟩

theorem rd_at {w0 w : World} {B : Nat} {a : Option Addr} {bs : List UInt8} (h : Rd w0 B a bs) (hB : B ≤ w0.heap.size) (hb : Below w0.heap.size w0 w) : Rd w w.heap.size a bs := (h.below (hb.mono hB)).more (Nat.le_trans hB hb.size)

theorem number_eq (a : Option Addr) (n c : Nat) (bs : List UInt8) (w : World) (N : Nat) (hN : CrcM.num (bs.take 4) = N) (hn : bs.length = n) (h4 : 4 ≤ n) (hm : n ≤ 9223372036854775807) (h : Rd w w.heap.size a bs) :
    Calls Tryz.prog 75 #[.slice a n c] w fun e w' => e = .returned (.int .u32 (N : Nat)) ∧ Below w.heap.size w w' := by
  subst hN; exact number_any a n c bs w hn h4 hm h
theorem sum_eq (a : Option Addr) (n c : Nat) (bs : List UInt8) (w : World) (C : Nat) (hC : CrcM.crc 0 bs = C) (hn : bs.length = n) (hm : n ≤ 9223372036854775807) (h : Rd w w.heap.size a bs) :
    Calls Tryz.prog 66 #[.slice a n c] w fun e w' => e = .returned (.int .u32 (C : Nat)) ∧ Below w.heap.size w w' := by
  subst hC; exact sum_any a n c bs w hn hm h
set_option maxRecDepth 100000 in
set_option maxHeartbeats 1000000 in
theorem next_short (a : Option Addr) (n c : Nat) (bs : List UInt8) (w : World) (hn : bs.length = n) (h8 : n < 8) :
    Calls Tryz.prog 43 #[.slice a n c] w (NextIs w (LogM.next bs)) := by
  have e : LogM.next bs = ([], 0, 10) := by unfold LogM.next; rw [if_pos (by omega)]
  rw [e]
  clear hn e
  go_enter Tryz.func43, Tryz.ntmps43
  go_wp2_with fail
  go_ret3
  exact NextIs.err (Below.refl _ _)

set_option maxRecDepth 100000 in
set_option maxHeartbeats 1000000 in
theorem next_head (a : Option Addr) (n c : Nat) (bs : List UInt8) (w : World) (hn : bs.length = n) (hm : n ≤ 140737488355328) (hc : n ≤ c) (hcm : c ≤ 9223372036854775807) (h : Rd w w.heap.size a bs) (h8 : 8 ≤ n)
    (N4 C4 : Nat) (hN4 : LogM.numAt bs 4 = N4) (hC4 : CrcM.crc 0 (bs.take 4) = C4) (hd : ((N4 : Int) != (C4 : Int)) = true) :
    Calls Tryz.prog 43 #[.slice a n c] w fun e w' => e = .returned (.tuple #[.slice none 0 0, .int .i64 0, .int .i64 11]) ∧ Below w.heap.size w w' := by
  have hs1 := fun W => slice_l_b W a n c .i64 4 (by omega) (by omega)
  have hs2 := fun W => slice_h_b W a n c .i64 4 (by omega) (by omega)
  have hcut : Rd w w.heap.size (cutA a c 4 1) (bs.drop 4) := h.cutA (by omega)
  have hfr := h.front 4
  have HN := Lib.hid hn
  have HN4 : Hid (CrcM.num ((bs.drop 4).take 4) = N4) := Lib.hid hN4
  have HC4 := Lib.hid hC4
  clear hn hN4 hC4
  go_enter Tryz.func43, Tryz.ntmps43
  go_wp2_with fail
  have hB0 : Below w.heap.size w w.drew := (Below.refl _ _).drew
  first
  | go_region_with
    (first
      | (go_at_call 75; ((with_reducible refine (number_eq (cutA a c 4 1) (n - 4) (c - 4) (bs.drop 4) _ N4 HN4.out (by rw [List.length_drop, HN.out]) (by omega) (by omega) ?_).mono ?_); (exact rd_at hcut (Nat.le_refl _) (by assumption)); rintro e w5 ⟨rfl, hb5⟩; have hB5 : Below w.heap.size w w5 := Below.next0 (by assumption) hb5))
      | (go_at_call 66; ((with_reducible refine (sum_eq a 4 c (bs.take 4) _ C4 HC4.out (by rw [List.length_take, HN.out]; omega) (by omega) ?_).mono ?_); (exact rd_at hfr (Nat.le_refl _) (by assumption)); rintro e w6 ⟨rfl, hb6⟩; have hB6 : Below w.heap.size w w6 := Below.next0 (by assumption) hb6)))
  | fail
  go_wp2_with fail
  go_ret3
  exact ⟨rfl, by assumption⟩

set_option maxRecDepth 100000 in
set_option maxHeartbeats 2000000 in
theorem next_great (a : Option Addr) (n c : Nat) (bs : List UInt8) (w : World) (hn : bs.length = n) (hm : n ≤ 140737488355328) (hc : n ≤ c) (hcm : c ≤ 9223372036854775807) (h : Rd w w.heap.size a bs) (h8 : 8 ≤ n)
    (N4 N0 : Nat) (hN4 : LogM.numAt bs 4 = N4) (hC4 : CrcM.crc 0 (bs.take 4) = N4) (hN0 : LogM.numAt bs 0 = N0) (hN0l : N0 < 4294967296) (hg : 65536 < N0) :
    Calls Tryz.prog 43 #[.slice a n c] w fun e w' => e = .returned (.tuple #[.slice none 0 0, .int .i64 0, .int .i64 11]) ∧ Below w.heap.size w w' := by
  have hs1 := fun W => slice_l_b W a n c .i64 4 (by omega) (by omega)
  have hs2 := fun W => slice_h_b W a n c .i64 4 (by omega) (by omega)
  have hcut : Rd w w.heap.size (cutA a c 4 1) (bs.drop 4) := h.cutA (by omega)
  have hfr := h.front 4
  have hd : ((N4 : Int) != (N4 : Int)) = false := by simp
  have HN := Lib.hid hn
  have HN4 : Hid (CrcM.num ((bs.drop 4).take 4) = N4) := Lib.hid hN4
  have HC4 := Lib.hid hC4
  have HN0 : Hid (CrcM.num (bs.take 4) = N0) := Lib.hid hN0
  clear hn hN4 hC4 hN0
  go_enter Tryz.func43, Tryz.ntmps43
  go_wp2_with fail
  have hB0 : Below w.heap.size w w.drew := (Below.refl _ _).drew
  go_region_held3 (fun w' => Below w.heap.size w w') (assumption)
    (first
      | (go_at_call 75; ((with_reducible refine (number_eq (cutA a c 4 1) (n - 4) (c - 4) (bs.drop 4) _ N4 HN4.out (by rw [List.length_drop, HN.out]) (by omega) (by omega) ?_).mono ?_); (exact rd_at hcut (Nat.le_refl _) (by assumption)); rintro e w5 ⟨rfl, hb5⟩; have hB5 : Below w.heap.size w w5 := Below.next0 (by assumption) hb5))
      | (go_at_call 75; ((with_reducible refine (number_eq a n c bs _ N0 HN0.out HN.out (by omega) (by omega) ?_).mono ?_); (exact rd_at h (Nat.le_refl _) (by assumption)); rintro e w7 ⟨rfl, hb7⟩; have hB7 : Below w.heap.size w w7 := Below.next0 (by assumption) hb7))
      | (go_at_call 66; ((with_reducible refine (sum_eq a 4 c (bs.take 4) _ N4 HC4.out (by rw [List.length_take, HN.out]; omega) (by omega) ?_).mono ?_); (exact rd_at hfr (Nat.le_refl _) (by assumption)); rintro e w6 ⟨rfl, hb6⟩; have hB6 : Below w.heap.size w w6 := Below.next0 (by assumption) hb6)))
  go_wp2_with fail
  go_ret3
  exact ⟨rfl, by assumption⟩
set_option maxRecDepth 100000 in
set_option maxHeartbeats 2000000 in
theorem next_mid (a : Option Addr) (n c : Nat) (bs : List UInt8) (w : World) (hn : bs.length = n) (hm : n ≤ 140737488355328) (hc : n ≤ c) (hcm : c ≤ 9223372036854775807) (h : Rd w w.heap.size a bs) (h8 : 8 ≤ n)
    (N4 N0 : Nat) (hN4 : LogM.numAt bs 4 = N4) (hC4 : CrcM.crc 0 (bs.take 4) = N4) (hN0 : LogM.numAt bs 0 = N0) (hN0l : N0 < 4294967296) (hg : N0 ≤ 65536) :
    Calls Tryz.prog 43 #[.slice a n c] w (NextIs w (LogM.next bs)) := by
  have hnx : LogM.next bs = if n < N0 + 12 then ([], 0, 10) else if LogM.numAt bs (N0 + 8) ≠ CrcM.crc 0 ((bs.drop 8).take N0) then ([], 0, 11) else ((bs.drop 8).take N0, N0 + 12, 0) := by
    unfold LogM.next LogM.most
    rw [hN4, hC4, hN0, hn, if_neg (by omega), if_neg (by omega)]
  have HNX := Lib.hid hnx
  clear hnx
  have hs1 := fun W => slice_l_b W a n c .i64 4 (by omega) (by omega)
  have hs2 := fun W => slice_h_b W a n c .i64 4 (by omega) (by omega)
  have hcut : Rd w w.heap.size (cutA a c 4 1) (bs.drop 4) := h.cutA (by omega)
  have hfr := h.front 4
  have hd : ((N4 : Int) != (N4 : Int)) = false := by simp
  have HN := Lib.hid hn
  have HN4 : Hid (CrcM.num ((bs.drop 4).take 4) = N4) := Lib.hid hN4
  have HC4 := Lib.hid hC4
  have HN0 : Hid (CrcM.num (bs.take 4) = N0) := Lib.hid hN0
  clear hn hN4 hC4 hN0
  go_enter Tryz.func43, Tryz.ntmps43
  go_wp2_with fail
  have hB0 : Below w.heap.size w w.drew := (Below.refl _ _).drew
  go_region_held3 (fun w' => Below w.heap.size w w') (assumption)
    (first
      | (go_at_call 75; ((with_reducible refine (number_eq (cutA a c 4 1) (n - 4) (c - 4) (bs.drop 4) _ N4 HN4.out (by rw [List.length_drop, HN.out]) (by omega) (by omega) ?_).mono ?_); (exact rd_at hcut (Nat.le_refl _) (by assumption)); rintro e w5 ⟨rfl, hb5⟩; have hB5 : Below w.heap.size w w5 := Below.next0 (by assumption) hb5))
      | (go_at_call 75; ((with_reducible refine (number_eq a n c bs _ N0 HN0.out HN.out (by omega) (by omega) ?_).mono ?_); (exact rd_at h (Nat.le_refl _) (by assumption)); rintro e w7 ⟨rfl, hb7⟩; have hB7 : Below w.heap.size w w7 := Below.next0 (by assumption) hb7))
      | (go_at_call 66; ((with_reducible refine (sum_eq a 4 c (bs.take 4) _ N4 HC4.out (by rw [List.length_take, HN.out]; omega) (by omega) ?_).mono ?_); (exact rd_at hfr (Nat.le_refl _) (by assumption)); rintro e w6 ⟨rfl, hb6⟩; have hB6 : Below w.heap.size w w6 := Below.next0 (by assumption) hb6)))
  go_wp2_with fail
  refine (number_eq a n c bs _ N0 HN0.out HN.out (by omega) (by omega) (rd_at h (Nat.le_refl _) hB7)).mono ?_
  rintro e w8 ⟨rfl, hb8⟩
  have hB8 := Below.next0 hB7 hb8
  clear hb8 hB0 hB7
  go_wp2_with fail
  refine (size_any (N0 : Int) _).mono ?_
  rintro e w9 ⟨rfl, rfl⟩
  rw [show max (min (N0 : Int) 65536) 0 + 12 = ((N0 + 12 : Nat) : Int) by omega]
  by_cases hsh : n < N0 + 12
  · have hsh' : (n : Int) < ((N0 + 12 : Nat) : Int) := by omega
    have HSH := Lib.hid hsh
    clear hsh
    go_wp2_with fail
    go_ret3
    rw [HNX.out, if_pos HSH.out]
    exact NextIs.err hB8
  · have hsh' : ¬ (n : Int) < ((N0 + 12 : Nat) : Int) := by omega
    have hs3 := fun W => slice_lh_b W a n c .i64 .i64 8 ((N0 : Int) + 12 - 4) (by omega) (by omega) (by omega)
    have hs4 := fun W => slice_l_b W a n c .i64 ((N0 : Int) + 12 - 4) (by omega) (by omega)
    rw [show ((N0 : Int) + 12 - 4).toNat = N0 + 8 by omega] at hs3 hs4
    have hc8 : Rd w w.heap.size (cutA a c 8 1) ((bs.drop 8).take N0) := (h.cutA (by rw [HN.out]; exact hc)).front N0
    have hce : Rd w w.heap.size (cutA a c (N0 + 8) 1) (bs.drop (N0 + 8)) := h.cutA (by rw [HN.out]; exact hc)
    have hl8 : ((bs.drop 8).take N0).length = N0 := by rw [List.length_take, List.length_drop, HN.out]; omega
    have HL8 := Lib.hid hl8
    obtain ⟨NE, hNE⟩ : ∃ x, CrcM.num ((bs.drop (N0 + 8)).take 4) = x := ⟨_, rfl⟩
    obtain ⟨CE, hCE⟩ : ∃ x, CrcM.crc 0 ((bs.drop 8).take N0) = x := ⟨_, rfl⟩
    have HNE := Lib.hid hNE
    have HCE := Lib.hid hCE
    have HSH := Lib.hid hsh
    clear hsh hl8 hNE hCE
    go_wp2_with fail
    refine (number_eq _ _ _ (bs.drop (N0 + 8)) _ NE HNE.out (by rw [List.length_drop, HN.out]) (by omega) (by omega) (rd_at hce (Nat.le_refl _) hB8)).mono ?_
    rintro e w10 ⟨rfl, hb10⟩
    have hB10 := Below.next0 hB8 hb10
    clear hb10 hB8
    go_wp2_with fail
    refine (sum_eq _ _ _ ((bs.drop 8).take N0) _ CE HCE.out HL8.out (by omega) (rd_at hc8 (Nat.le_refl _) hB10)).mono ?_
    rintro e w11 ⟨rfl, hb11⟩
    have hB11 := Below.next0 hB10 hb11
    clear hb11 hB10
    by_cases hq : NE = CE
    · subst hq
      have hd2 : ((NE : Int) != (NE : Int)) = false := by simp
      go_wp2_with fail
      refine (clone_any _ _ _ ((bs.drop 8).take N0) _ HL8.out (by omega) (rd_at hc8 (Nat.le_refl _) hB11)).mono ?_
      rintro e w12 ⟨a', c', rfl, ho12, hb12⟩
      have hB12 := Below.next0 hB11 hb12
      have ho : Own w12 w.heap.size a' N0 c' ((bs.drop 8).take N0) := ho12.lower hB11.size
      clear hb12 hB11 ho12
      go_wp2_with fail
      go_ret3
      have hfin : LogM.next bs = ((bs.drop 8).take N0, N0 + 12, 0) := by
        rw [HNX.out, if_neg HSH.out, if_neg]
        intro hne
        exact hne (HNE.out.trans HCE.out.symm)
      rw [hfin]
      refine ⟨a', c', ?_, ?_, hB12⟩
      · rw [HL8.out]; rfl
      · rw [HL8.out]; exact ho
    · have hd2 : ((NE : Int) != (CE : Int)) = true := by rw [bne_iff_ne]; omega
      have HQ := Lib.hid hq
      clear hq
      go_wp2_with fail
      go_ret3
      rw [HNX.out, if_neg HSH.out, if_pos (fun e => HQ.out (HNE.out.symm.trans (e.trans HCE.out)))]
      exact NextIs.err hB11

/-- the record at the beginning of bytes, whatever they are -/
theorem lognext_any (a : Option Addr) (n c : Nat) (bs : List UInt8) (w : World) (hn : bs.length = n) (hm : n ≤ 140737488355328) (hc : n ≤ c) (hcm : c ≤ 9223372036854775807) (h : Rd w w.heap.size a bs) :
    Calls Tryz.prog 43 #[.slice a n c] w (NextIs w (LogM.next bs)) := by
  by_cases h8 : n < 8
  · exact next_short a n c bs w hn h8
  have h8' : 8 ≤ n := by omega
  by_cases hq : LogM.numAt bs 4 = CrcM.crc 0 (bs.take 4)
  · by_cases hg : 65536 < LogM.numAt bs 0
    · refine (next_great a n c bs w hn hm hc hcm h h8' _ _ hq rfl rfl (LogM.numAt_lt _ _) hg).mono ?_
      rintro e w' ⟨rfl, hb⟩
      have e : LogM.next bs = ([], 0, 11) := by unfold LogM.next; rw [if_neg (by omega), if_pos (.inr hg)]
      rw [e]; exact NextIs.err hb
    · exact next_mid a n c bs w hn hm hc hcm h h8' _ _ rfl hq.symm rfl (LogM.numAt_lt _ _) (by omega)
  · have hd : (((LogM.numAt bs 4 : Nat) : Int) != (CrcM.crc 0 (bs.take 4) : Nat)) = true := by rw [bne_iff_ne]; omega
    refine (next_head a n c bs w hn hm hc hcm h h8' _ _ rfl rfl hd).mono ?_
    rintro e w' ⟨rfl, hb⟩
    have e : LogM.next bs = ([], 0, 11) := by unfold LogM.next; rw [if_neg (by omega), if_pos (.inl hq)]
    rw [e]; exact NextIs.err hb
end Go.Proofs.YtopnhplacdbkdaaGreat
