/- The walk of the statement LogLarge: a head with any number and its own sum. Condition: the argument reads as bytes. -/
import Derived.Test.YtopnhplacdbkdaaLogScan
namespace Go.Proofs.Ytopnhplacdbkdaa
open Go.RowKit

/-- a head with its own sum is bad exactly beyond the greatest record -/
theorem next_large (v : Nat) (hv : v < 4294967296) (r : List UInt8) (hg : 65536 < v) : (LogM.next (LogM.four v ++ (LogM.four (CrcM.crc 0 (LogM.four v)) ++ r))).2.2 = 11 := by
  have n0 : LogM.numAt (LogM.four v ++ (LogM.four (CrcM.crc 0 (LogM.four v)) ++ r)) 0 = v := by
    unfold LogM.numAt
    rw [List.drop_zero, List.take_left' (LogM.four_length _), LogM.num_four hv]
  unfold LogM.next
  rw [n0]
  have hl : ¬ (LogM.four v ++ (LogM.four (CrcM.crc 0 (LogM.four v)) ++ r)).length < 8 := by simp [LogM.four_length]; omega
  rw [if_neg hl, if_pos (.inr hg)]

set_option maxRecDepth 100000 in
set_option maxHeartbeats 4000000 in
theorem walkLogLarge (v : Nat) (a : Option Addr) (n c : Nat) (bs : List UInt8) (w : World) (hv : v < 4294967296) (hn : bs.length = n) (_hm : n ≤ 9223372036854775807) (h : Rd w w.heap.size a bs) (_hc : n ≤ c) (_hcm : c ≤ 9223372036854775807) :
    Calls Try.prog 12 #[.int .u32 (v : Int), .slice a n c] w fun e w' => e = .returned (.bool true) ∧ Below w.heap.size w w' := by
  have HN := Lib.hid hn
  clear hn
  by_cases h5 : 500 < n
  · have h5' : (500 : Int) < (n : Int) := by omega
    go_enter Try.func12, Try.ntmps12
    go_wp2_with fail
    refine (logknown_any w).mono ?_
    rintro e w1 ⟨rfl, hB1⟩
    go_wp2_with fail
    go_ret
    exact ⟨rfl, hB1⟩
  have h5' : (n : Int) ≤ 500 := by omega
  have hand : ∀ v : Nat, v < 4294967296 → bits .and .u32 (v : Int) 255 = (v : Int) % 256 := fun v hv => by
    rw [show (255 : Int) = ((255 : Nat) : Int) from rfl, u32_and_nat _ 255 hv (by omega), show (255 : Nat) = 2 ^ 8 - 1 from rfl, Nat.and_two_pow_sub_one_eq_mod]; omega
  have e0 := hand v hv
  have e1 : bits .and .u32 ((v : Int) / 256) 255 = (v : Int) / 256 % 256 := by have := hand (v / 256) (by omega); rw [show ((v / 256 : Nat) : Int) = (v : Int) / 256 by omega] at this; exact this
  have e2 : bits .and .u32 ((v : Int) / 65536) 255 = (v : Int) / 65536 % 256 := by have := hand (v / 65536) (by omega); rw [show ((v / 65536 : Nat) : Int) = (v : Int) / 65536 by omega] at this; exact this
  obtain ⟨C, hC⟩ : ∃ C, CrcM.crc 0 (LogM.four v) = C := ⟨_, rfl⟩
  have hCl : C < 4294967296 := by rw [← hC]; exact CrcM.crc_lt _ (by omega)
  have f0 := hand C hCl
  have f1 : bits .and .u32 ((C : Int) / 256) 255 = (C : Int) / 256 % 256 := by have := hand (C / 256) (by omega); rw [show ((C / 256 : Nat) : Int) = (C : Int) / 256 by omega] at this; exact this
  have f2 : bits .and .u32 ((C : Int) / 65536) 255 = (C : Int) / 65536 % 256 := by have := hand (C / 65536) (by omega); rw [show ((C / 65536 : Nat) : Int) = (C : Int) / 65536 by omega] at this; exact this
  have HC := Lib.hid hC
  have HF := Lib.hid (four_cells v hv)
  have HG := Lib.hid (four_cells C hCl)
  clear hand hC
  go_enter Try.func12, Try.ntmps12
  go_wp2_with fail
  refine (logknown_any w).mono ?_
  rintro e w1 ⟨rfl, hB1⟩
  have hr1 := h.step hB1
  clear h
  have ho2 : Own (w1.alloc (.cells #[.int .u8 ((v : Int) % 256), .int .u8 ((v : Int) / 256 % 256), .int .u8 ((v : Int) / 65536 % 256), .int .u8 ((v : Int) / 16777216)] 5)) w1.heap.size (some ⟨w1.heap.size, 0, none⟩) 4 4 (LogM.four v) := Own.lit (B := w1.heap.size) w1 (Nat.le_refl _) _ HF.out (by simp [maxLen])
  have hb2 : Below w1.heap.size w1 (w1.alloc (.cells #[.int .u8 ((v : Int) % 256), .int .u8 ((v : Int) / 256 % 256), .int .u8 ((v : Int) / 65536 % 256), .int .u8 ((v : Int) / 16777216)] 5)) := (Below.refl _ _).alloc (Nat.le_refl _) _
  go_wp2_with fail
  refine (refcrc_eq _ 4 4 (LogM.four v) _ C HC.out rfl (by omega) ho2.rd).mono ?_
  rintro e w2 ⟨rfl, rfl⟩
  have hlit4 : Rd ((w1.alloc (.cells #[.int .u8 ((v : Int) % 256), .int .u8 ((v : Int) / 256 % 256), .int .u8 ((v : Int) / 65536 % 256), .int .u8 ((v : Int) / 16777216)] 5))) (w1.heap.size + 1) (some ⟨w1.heap.size, 0, none⟩) (LogM.four v) := ho2.rd.more (by simp)
  generalize (w1.alloc (.cells #[.int .u8 ((v : Int) % 256), .int .u8 ((v : Int) / 256 % 256), .int .u8 ((v : Int) / 65536 % 256), .int .u8 ((v : Int) / 16777216)] 5)) = w2 at *
  have hb3 : Below w2.heap.size w2 (w2.alloc (.cells #[.int .u8 ((C : Int) % 256), .int .u8 ((C : Int) / 256 % 256), .int .u8 ((C : Int) / 65536 % 256), .int .u8 ((C : Int) / 16777216)] 5)) := (Below.refl _ _).alloc (Nat.le_refl _) _
  have hr3 : Rd (w2.alloc (.cells #[.int .u8 ((C : Int) % 256), .int .u8 ((C : Int) / 256 % 256), .int .u8 ((C : Int) / 65536 % 256), .int .u8 ((C : Int) / 16777216)] 5)) (w2.heap.size + 1) (some ⟨w2.heap.size, 0, none⟩) (LogM.four C) := by
    have := (Own.lit (B := w2.heap.size) w2 (Nat.le_refl _) _ HG.out (by simp [maxLen])).rd
    rwa [World.size_alloc] at this
  have ho3 := ho2.alloc (.cells #[.int .u8 ((C : Int) % 256), .int .u8 ((C : Int) / 256 % 256), .int .u8 ((C : Int) / 65536 % 256), .int .u8 ((C : Int) / 16777216)] 5)
  have hB3 : Below w1.heap.size w1 (w2.alloc (.cells #[.int .u8 ((C : Int) % 256), .int .u8 ((C : Int) / 256 % 256), .int .u8 ((C : Int) / 65536 % 256), .int .u8 ((C : Int) / 16777216)] 5)) := Below.next0 hb2 hb3
  have hb1r : Rd w1 w1.heap.size a bs := hr1
  go_wp2_with (first
    | (at_builtin; refine wpList_append_b rfl (.tmp 36) (.tmp 51) rfl w1 _ w1.heap.size hB3 hB3.size _ 4 4 _ rfl ho3 _ (some ⟨w2.heap.size, 0, none⟩) 4 4 (LogM.four C) rfl hr3 rfl 8 rfl (by omega) ?_; intro a5 c5 w5 ho5 hg5 hb5 hat5; have hr5 := hr1.below hb5)
    | (at_builtin; refine wpList_append_b rfl (.tmp 52) (.tmp 53) rfl w1 _ w1.heap.size hb5 hb5.size _ 8 c5 _ rfl ho5 _ a n c bs rfl hr5 HN.out (8 + n) rfl (by omega) ?_; intro a6 c6 w6 ho6 hg6 hb6 hat6))
  have hB6 := Below.next0 hB1 hb6
  have hcap := ho6.cap
  unfold maxLen at hcap
  rw [List.append_assoc] at ho6
  have hnx : LogM.next (LogM.four v ++ (LogM.four C ++ bs)) = LogM.next (LogM.four v ++ (LogM.four (CrcM.crc 0 (LogM.four v)) ++ bs)) := by rw [HC.out]
  have hbig : 65536 < v → (LogM.next (LogM.four v ++ (LogM.four C ++ bs))).2.2 = 11 := fun hg => by rw [hnx]; exact next_large v hv bs hg
  have HBIG := Lib.hid hbig
  have hl6 := ho6.len
  have hr6 := ho6.rd
  clear hb2 hb3 hr3 ho3 hB3 hb1r hr1 hB1 hlit4 ho2 hnx hbig hg6 hat6 hb6 ho6
  generalize LogM.four v ++ (LogM.four C ++ bs) = T at *
  have HL6 := Lib.hid hl6
  clear hl6
  refine (lognext_any a6 (8 + n) c6 T w6 HL6.out (by omega) hcap.1 hcap.2 hr6).mono ?_
  rintro e w7 ⟨a7, c7, rfl, ho7, hb7⟩
  have hB7 := Below.next0 hB6 hb7
  have hr7 := hr6.step hb7
  have hx7 := ho7.rd
  clear hb7 ho7 hB6 hr6
  go_wp2_with fail
  refine (refnext_any a6 (8 + n) c6 T w7 HL6.out (by omega) hcap.1 hcap.2 hr7).mono ?_
  rintro e w8 ⟨a8, c8, rfl, ho8, hb8⟩
  have hB8 := Below.next0 hB7 hb8
  have hr8 := hr7.step hb8
  have hx8 := hx7.step hb8
  have hy8 := ho8.rd
  clear hb8 ho8 hB7 hr7 hx7
  generalize LogM.next T = r at *
  obtain ⟨X, N, E⟩ := r
  have st1 := run_string_b w8 _ a7 X.length c7 X hx8 rfl
  have st2 := run_string_b w8 _ a8 X.length c8 X hy8 rfl
  have hE : (v : Int) ≤ 65536 ∨ 65536 < v := by omega
  go_wp2_with fail
  refine (scans_any a6 (8 + n) c6 T w8 HL6.out (by omega) hcap.1 hcap.2 hr8).mono ?_
  rintro e w9 ⟨rfl, hb9⟩
  have hB9 := Below.next0 hB8 hb9
  by_cases hg : 65536 < v
  · have hE11 : E = 11 := HBIG.out hg
    subst hE11
    have hg' : ¬ ((v : Int) ≤ 65536) := by omega
    go_wp2_with fail
    go_ret
    exact ⟨rfl, hB9⟩
  · have hg' : (v : Int) ≤ 65536 := by omega
    go_wp2_with fail
    go_ret
    exact ⟨rfl, hB9⟩
end Go.Proofs.Ytopnhplacdbkdaa
