/- Part 6 of the proof of LawParseDeep: NatU, NatC, DyM, ExactA, FlatE. Condition: as each theorem says; none at the end. -/
import Derived.BigQuiet
import Derived.Sort.QuietTacIn
import Derived.RangeFuncCalls
import Derived.Below
import Derived.BigRegion
import Derived.Test.YtdilmfakkppgpaaGreatDoorPkParseDeep03
import Derived.Test.YtdilmfakkppgpaaGreatDoorPkParseDeep04
import Derived.Test.YtdilmfakkppgpaaGreatDoorPkParseDeep05
namespace Go.Proofs.YtdilmfakkppgpaaGreatDoor
open Go.RowKit WordsM
theorem left_or64 {s t x y : Nat} (hst : s + t = 64) (hx : x < 2 ^ 64) (hy : y < 2 ^ s) : y ||| x * 2 ^ s % 2 ^ 64 = y + x * 2 ^ s % 2 ^ 64 ∧ y + x * 2 ^ s % 2 ^ 64 < 2 ^ 64 ∧ x * 2 ^ s / 2 ^ 64 < 2 ^ s ∧ x / 2 ^ t = x * 2 ^ s / 2 ^ 64 := by
  have e : (2 : Nat) ^ 64 = 2 ^ t * 2 ^ s := by rw [← Nat.pow_add, ← hst, Nat.add_comm]
  have e2 : x * 2 ^ s % 2 ^ 64 = 2 ^ s * (x % 2 ^ t) := by rw [e, Nat.mul_mod_mul_right, Nat.mul_comm]
  have hm : x % 2 ^ t < 2 ^ t := Nat.mod_lt _ (Nat.pow_pos (by decide))
  have hle : 2 ^ s * (x % 2 ^ t + 1) ≤ 2 ^ s * 2 ^ t := Nat.mul_le_mul_left _ hm
  rw [Nat.mul_add, Nat.mul_one, Nat.mul_comm (2 ^ s) (2 ^ t), ← e] at hle
  refine ⟨?_, ?_, ?_, ?_⟩
  · rw [e2, Nat.or_comm, ← Nat.two_pow_add_eq_or_of_lt hy, Nat.add_comm]
  · rw [e2]; omega
  · rw [Nat.mul_comm]
    exact Nat.div_lt_of_lt_mul (by rw [Nat.mul_comm (2 ^ 64)]; exact Nat.mul_lt_mul_of_pos_left hx (Nat.pow_pos (by decide)))
  · rw [e, Nat.mul_div_mul_right _ _ (Nat.pow_pos (by decide))]
set_option maxRecDepth 100000 in
set_option maxHeartbeats 4000000 in
theorem natup_any (a : Option Addr) (n c : Nat) (ls : List Nat) (z : Nat) (w : World) (h : WordsIn w a n c ls) (hn : n ≤ 1000000) (hz : z ≤ 100000000) :
    Calls Tryz.prog 100 #[.slice a n c, .int .i64 (z : Int)] w (NumOut w (val (2 ^ 64) ls * 2 ^ z)) := by
  have hln := h.len
  have H1 := Lib.hid h
  clear h
  have htl := trim_len ls
  by_cases h0 : (trimL ls).length = 0
  · have hA0 : trimL ls = [] := List.length_eq_zero_iff.1 h0
    have hv0 : val (2 ^ 64) ls = 0 := by rw [← val_trim, hA0]; rfl
    rw [hv0, Nat.zero_mul]
    have h0I : ((trimL ls).length : Int) = 0 := by omega
    have h0b : (((trimL ls).length : Int) == 0) = true := by rw [beq_iff_eq]; exact h0I
    go_enter Tryz.func100, Tryz.ntmps100
    go_wp2_with (refine (cut_any a n c ls _ H1.out).mono ?_; rintro e w1 ⟨rfl, hb1⟩; have HB1 := Lib.hid hb1; clear hb1)
    go_ret
    exact ⟨none, 0, 0, rfl, WordsIn.nil_ _, HB1.out⟩
  have h0I : ¬ ((trimL ls).length : Int) = 0 := by omega
  have h0b : (((trimL ls).length : Int) == 0) = false := by rw [beq_eq_false_iff_ne]; exact h0I
  obtain ⟨k, hk⟩ : ∃ k, z / 64 = k := ⟨_, rfl⟩
  obtain ⟨s, hs⟩ : ∃ s, z % 64 = s := ⟨_, rfl⟩
  have hs64 : s < 64 := by omega
  have hzz : z = 64 * k + s := by omega
  have hkI : (z : Int).tdiv 64 = (k : Int) := by rw [Int.tdiv_eq_ediv_of_nonneg (by omega)]; omega
  have hsI : (z : Int).tmod 64 = (s : Int) := by rw [Int.tmod_eq_emod_of_nonneg (by omega)]; omega
  have hkI2 : (z : Int) / 64 = (k : Int) := by omega
  have hsI2 : (z : Int) % 64 = (s : Int) := by omega
  have hsub : (64 : Int) - (s : Int) = ((64 - s : Nat) : Int) := by omega
  have hzv : val (2 ^ 64) ls * 2 ^ z = val (2 ^ 64) (trimL ls) * ((2 ^ 64) ^ k * 2 ^ s) := by rw [val_trim, hzz, Nat.pow_add, Nat.pow_mul]
  rw [hzv]
  obtain ⟨A, hA⟩ : ∃ A, trimL ls = A := ⟨_, rfl⟩
  have hT := fun W (hb : Below w.heap.size w W) => (H1.out.step hb).trim
  rw [hA] at htl h0I h0b hT ⊢
  have hmk := run_make_row' (P := Tryz.prog) 23 74 (.int .u64 0) 8 Tryz.underlying23 info_u64 rfl .i64 .i64 (A.length + k + 1) (by omega) (by omega)
  rw [show ((A.length + k + 1 : Nat) : Int) = (A.length : Int) + (k : Int) + 1 by omega, made_zeros'] at hmk
  have HT := Lib.hid hT
  have hcut := fun W hb => cut_any a n c ls W (H1.out.step hb)
  rw [hA] at hcut
  have HC := Lib.hid hcut
  clear hT hk hs hzv hzz h0 hA hcut
  go_enter Tryz.func100, Tryz.ntmps100
  go_wp2_with (refine (HC.out _ (Below.refl _ _)).mono ?_; rintro e w1 ⟨rfl, hb1⟩; have HB1 := Lib.hid hb1; clear hb1)
  have hW1 := HT.out w1 HB1.out
  have hlow := hW1.low
  have hrd := hW1.rd
  have hB0 : Below w1.heap.size w1 (w1.alloc (.cells (Array.replicate (A.length + k + 1) (nv .u64 0)) 74)) := (Below.refl _ _).alloc (Nat.le_refl _) _
  have hA0 := Arr.zeros w1 74 .u64 (A.length + k + 1)
  have H0 := Lib.hid (And.intro hB0 hA0)
  have H := Lib.hid (And.intro hlow hrd)
  clear hB0 hA0 hmk hW1 hlow hrd
  go_loopw [27] (fun iv wr => ∃ (i : Nat) (L : List Nat), iv = .int .i64 (i : Int) ∧ i ≤ A.length ∧ Arr 74 .u64 wr w1.heap.size L ∧ L.length = A.length + k + 1 ∧ Low (2 ^ 64) L ∧ val (2 ^ 64) L = val (2 ^ 64) (A.take i) * ((2 ^ 64) ^ k * 2 ^ s) ∧ (∀ t, k + i < t → t < A.length + k + 1 → L[t]? = some 0) ∧ (∃ y, L[k + i]? = some y ∧ y < 2 ^ s) ∧ Below w1.heap.size w1 wr) (fun iv _ => A.length - (intOf iv).toNat)
  case atStart =>
    refine ⟨0, List.replicate (A.length + k + 1) 0, rfl, Nat.zero_le _, H0.out.2, by simp, fun x hx => ?_, by rw [val_zeros]; simp [val], fun t _ ht => ?_, ⟨0, ?_, Nat.pow_pos (by decide)⟩, H0.out.1⟩
    · rw [List.eq_of_mem_replicate hx]; decide
    · rw [List.getElem?_replicate]; simp [ht]
    · rw [List.getElem?_replicate, if_pos (by omega)]
  case round =>
    obtain ⟨i, L, rfl, hi, hL, hLl, hLow, hval, hzer, ⟨y, hy, hys⟩, hbw⟩ := hrel
    by_cases hlt : i < A.length
    · have hlt' : (i : Int) < (A.length : Int) := by omega
      obtain ⟨x, hx⟩ : ∃ x, A[i]? = some x := ⟨_, List.getElem?_eq_getElem hlt⟩
      obtain ⟨ba, oa, hae, hba, hcx⟩ := (H.out.2.below hbw).at_ hx
      have hxl : x < 18446744073709551616 := H.out.1 x (List.mem_of_getElem? hx)
      have hyl : y < 18446744073709551616 := hLow y (List.mem_of_getElem? hy)
      subst hae
      obtain ⟨hor, hlo64, hhis, hxt⟩ := left_or64 (s := s) (t := 64 - s) (x := x) (y := y) (by omega) hxl hys
      have h0i := hzer (k + i + 1) (by omega) (by omega)
      have hstep := fun lo hi (hp : x * 2 ^ s = lo + 2 ^ 64 * hi) => left_step (lo := lo) (hi := hi) hval hx hy h0i hp
      have hmulI : ((x : Int) * 2 ^ s) % 18446744073709551616 = ((x * 2 ^ s % 2 ^ 64 : Nat) : Int) := by rw [Int.natCast_emod, Int.natCast_mul, Int.natCast_pow]; rfl
      have hdivI : (x : Int) / 2 ^ (64 - s) = ((x / 2 ^ (64 - s) : Nat) : Int) := by norm_cast
      obtain ⟨p, hp⟩ : ∃ p, x * 2 ^ s = p := ⟨_, rfl⟩
      rw [hxt] at hdivI
      rw [hp] at hor hlo64 hhis hstep hmulI hdivI
      obtain ⟨lo, hlo⟩ : ∃ lo, p % 2 ^ 64 = lo := ⟨_, rfl⟩
      obtain ⟨hi', hhi⟩ : ∃ hi, p / 2 ^ 64 = hi := ⟨_, rfl⟩
      have hpd := Nat.mod_add_div p (2 ^ 64)
      rw [hlo, hhi] at hpd
      have hst := hstep lo hi' hpd.symm
      rw [hlo] at hor hlo64 hmulI
      rw [hhi] at hhis hdivI
      have hlol : lo < 18446744073709551616 := by rw [← hlo]; exact Nat.mod_lt _ (by decide)
      have hhil : hi' < 18446744073709551616 := Nat.lt_trans hhis (Nat.pow_lt_pow_right (by decide) hs64)
      have ho64 := u64_or_nat y lo hyl hlol
      rw [hor] at ho64
      obtain ⟨q, hq⟩ : ∃ q, y + lo = q := ⟨_, rfl⟩
      rw [hq] at ho64 hlo64 hst
      rw [Nat.add_comm k i] at hst hy h0i
      have hzc : wr.drew.cell? ⟨w1.heap.size, i + k, none⟩ = some (.int .u64 (y : Int)) := hL.cell hy
      have hzf : wr.drew.frozen? ⟨w1.heap.size, i + k, none⟩ = false := hL.frozen _
      have hL1 : Arr 74 .u64 (wr.setCell ⟨w1.heap.size, i + k, none⟩ (.int .u64 (q : Int))).drew w1.heap.size (L.set (i + k) q) := Arr.set (w := wr) hL (i + k) q
      have hy1 : (L.set (i + k) q)[i + k + 1]? = some 0 := by rw [List.getElem?_set_ne (by omega)]; exact h0i
      have hzc1 := hL1.cell hy1
      have hzf1 : (wr.setCell ⟨w1.heap.size, i + k, none⟩ (.int .u64 (q : Int))).drew.frozen? ⟨w1.heap.size, i + k + 1, none⟩ = false := hL1.frozen _
      have hL2 := hL1.set (i + k + 1) hi'
      have hcx' : wr.drew.cell? ⟨ba, oa + i, none⟩ = some (.int .u64 (x : Int)) := hcx
      have hki : (i : Int) + (k : Int) < (A.length : Int) + (k : Int) + 1 := by omega
      have hki1 : (i : Int) + (k : Int) + 1 < (A.length : Int) + (k : Int) + 1 := by omega
      have hkia : (k : Int) + (i : Int) < (A.length : Int) + (k : Int) + 1 := by omega
      have hkia1 : (k : Int) + (i : Int) + 1 < (A.length : Int) + (k : Int) + 1 := by omega
      have HH := Lib.hid (And.intro hst (And.intro hL2 (And.intro hLow (And.intro hbw (And.intro hzer hhis)))))
      clear hst hL hL1 hL2 hLow hval hbw hzer hlo hhi hp hx hy h0i hstep hor hy1 hhis hq hpd hxt
      have hfin : bits .or .u64 (y : Int) (IntKind.u64.wrap ((x : Int) * 2 ^ s)) = (q : Int) := by rw [IntKind.wrap_u64, hmulI, ho64]
      go_wp2_with fail
      go_region
      go_wp2_with fail
      refine ⟨⟨i + 1, (L.set (i + k) q).set (i + k + 1) hi', by simp, by omega, HH.out.2.1, by simp [hLl], low_set (low_set HH.out.2.2.1 hlo64) hhil, HH.out.1, fun t ht1 ht2 => ?_, ⟨hi', ?_, HH.out.2.2.2.2.2⟩, (HH.out.2.2.2.1.setCell (p := ⟨w1.heap.size, i + k, none⟩) (Nat.le_refl _) _).drew.setCell (p := ⟨w1.heap.size, i + k + 1, none⟩) (Nat.le_refl _) _⟩, by simp only [intOf]; omega⟩
      · rw [List.getElem?_set_ne (by omega), List.getElem?_set_ne (by omega)]
        exact HH.out.2.2.2.2.1 t (by omega) ht2
      · rw [show k + (i + 1) = i + k + 1 by omega, List.getElem?_set_self (by rw [List.length_set]; omega)]
    · obtain rfl : i = A.length := by omega
      have hlt' : ¬ ((A.length : Int) < (A.length : Int)) := by omega
      rw [List.take_length] at hval
      have hWL : WordsIn wr (some ⟨w1.heap.size, 0, none⟩) (A.length + k + 1) (A.length + k + 1) L := ⟨hLl, Nat.le_refl _, by omega, hLow, hL.rd⟩
      have hT := hWL.trim
      rw [trim_dig (by decide) hLow, hval] at hT
      have hC := cut_any (some ⟨w1.heap.size, 0, none⟩) (A.length + k + 1) (A.length + k + 1) L wr hWL
      rw [trim_dig (by decide) hLow, hval] at hC
      have HE := Lib.hid (And.intro hC (And.intro hT hbw))
      clear hT hbw hval hL hLow hzer hC hWL
      go_wp2_with (refine HE.out.1.mono ?_; rintro e w2 ⟨rfl, hb2⟩; have HB2 := Lib.hid hb2; clear hb2)
      go_ret
      exact ⟨_, _, _, rfl, HE.out.2.1.step HB2.out, Below.next0 (Below.next0 HB1.out HE.out.2.2) HB2.out⟩
end Go.Proofs.YtdilmfakkppgpaaGreatDoor
namespace Go.Proofs.YtdilmfakkppgpaaGreatDoor
open Go.RowKit WordsM
theorem outer_step {B : Nat} {A K : List Nat} {i x S : Nat} (hx : A[i]? = some x) (h : S = val B (A.take i) * val B K + x * B ^ i * val B K) : S = val B (A.take (i + 1)) * val B K := by
  rw [val_take_snoc A i x hx, h, Nat.add_mul, Nat.mul_comm x]
theorem inner_step {B V : Nat} {K : List Nat} {i j x y : Nat} (hy : K[j]? = some y) : V + x * B ^ i * val B (K.take j) + x * y * B ^ (i + j) = V + x * B ^ i * val B (K.take (j + 1)) := by
  rw [val_take_snoc K j y hy, Nat.mul_add, Nat.pow_add, Nat.add_assoc]
  congr 2
  rw [Nat.mul_assoc x (B ^ i), ← Nat.mul_assoc (B ^ i) (B ^ j) y, Nat.mul_comm (B ^ i * B ^ j) y]
  simp only [Nat.mul_assoc]
set_option maxRecDepth 100000 in
set_option maxHeartbeats 2000000 in
theorem natmul_any (a : Option Addr) (n c : Nat) (ls : List Nat) (b : Option Addr) (m d : Nat) (ks : List Nat) (w : World) (h1 : WordsIn w a n c ls) (h2 : WordsIn w b m d ks) (hn : n ≤ 100000) (hm : m ≤ 100000) :
    Calls Tryz.prog 98 #[.slice a n c, .slice b m d] w (NumOut w (val (2 ^ 64) ls * val (2 ^ 64) ks)) := by
  have hl1 := h1.len
  have hl2 := h2.len
  have H1 := Lib.hid h1
  have H2 := Lib.hid h2
  have ht1 := trim_len ls
  have ht2 := trim_len ks
  have hv1 : val (2 ^ 64) (trimL ls) = val (2 ^ 64) ls := val_trim ls
  have hv2 : val (2 ^ 64) (trimL ks) = val (2 ^ 64) ks := val_trim ks
  have hc1 := fun W (hb : Below w.heap.size w W) => cut_any a n c ls W (h1.step hb)
  have hc2 := fun W (hb : Below w.heap.size w W) => cut_any b m d ks W (h2.step hb)
  obtain ⟨A, hA⟩ : ∃ A, trimL ls = A := ⟨_, rfl⟩
  obtain ⟨K, hK⟩ : ∃ K, trimL ks = K := ⟨_, rfl⟩
  have hw1 := fun W (hb : Below w.heap.size w W) => (h1.step hb).trim
  have hw2 := fun W (hb : Below w.heap.size w W) => (h2.step hb).trim
  rw [hA] at ht1 hv1 hc1 hw1
  rw [hK] at ht2 hv2 hc2 hw2
  rw [← hv1, ← hv2]
  have HC := Lib.hid (And.intro hc1 hc2)
  have HW := Lib.hid (And.intro hw1 hw2)
  clear hA hK hv1 hv2 hc1 hc2 hw1 hw2 h1 h2 H1 H2
  by_cases h0 : A.length = 0 ∨ K.length = 0
  · have hz : val (2 ^ 64) A * val (2 ^ 64) K = 0 := by
      rcases h0 with h0 | h0
      · rw [List.length_eq_zero_iff.1 h0]; simp [val]
      · rw [List.length_eq_zero_iff.1 h0]; simp [val]
    have HZ := Lib.hid hz
    rw [hz]
    clear hz
    by_cases hA0 : A.length = 0
    · have hA0' : ((A.length : Int) == 0) = true := by simp [hA0]
      go_enter Tryz.func98, Tryz.ntmps98
      go_wp2_with (first
        | (go_at_call_of 143 a; refine (HC.out.1 _ (Below.refl _ _)).mono ?_; rintro e w1 ⟨rfl, hb1⟩; have HB1 := Lib.hid hb1; clear hb1)
        | (go_at_call_of 143 b; refine (HC.out.2 _ HB1.out).mono ?_; rintro e w2 ⟨rfl, hb2⟩; have HB2 := Lib.hid (Below.next0 HB1.out hb2); clear hb2))
      go_ret
      exact ⟨none, 0, 0, rfl, ⟨rfl, Nat.le_refl _, Nat.zero_le _, fun x hx => by simp [dig_zero] at hx, .inl rfl⟩, HB2.out⟩
    · have hK0 : K.length = 0 := by omega
      have hA0' : ((A.length : Int) == 0) = false := by rw [beq_eq_false_iff_ne]; omega
      have hK0' : ((K.length : Int) == 0) = true := by simp [hK0]
      go_enter Tryz.func98, Tryz.ntmps98
      go_wp2_with (first
        | (go_at_call_of 143 a; refine (HC.out.1 _ (Below.refl _ _)).mono ?_; rintro e w1 ⟨rfl, hb1⟩; have HB1 := Lib.hid hb1; clear hb1)
        | (go_at_call_of 143 b; refine (HC.out.2 _ HB1.out).mono ?_; rintro e w2 ⟨rfl, hb2⟩; have HB2 := Lib.hid (Below.next0 HB1.out hb2); clear hb2))
      go_ret
      exact ⟨none, 0, 0, rfl, ⟨rfl, Nat.le_refl _, Nat.zero_le _, fun x hx => by simp [dig_zero] at hx, .inl rfl⟩, HB2.out⟩
  have hA0' : ((A.length : Int) == 0) = false := by rw [beq_eq_false_iff_ne]; omega
  have hK0' : ((K.length : Int) == 0) = false := by rw [beq_eq_false_iff_ne]; omega
  have hmk := run_make_row' (P := Tryz.prog) 23 74 (.int .u64 0) 8 Tryz.underlying23 info_u64 rfl .i64 .i64 (A.length + K.length) (by omega) (by omega)
  rw [show ((A.length + K.length : Nat) : Int) = (A.length : Int) + (K.length : Int) by omega, made_zeros'] at hmk
  go_enter Tryz.func98, Tryz.ntmps98
  go_wp2_with (first
    | (go_at_call_of 143 a; refine (HC.out.1 _ (Below.refl _ _)).mono ?_; rintro e w1 ⟨rfl, hb1⟩; have HB1 := Lib.hid hb1; clear hb1)
    | (go_at_call_of 143 b; refine (HC.out.2 _ HB1.out).mono ?_; rintro e wc ⟨rfl, hb2⟩; have HB2 := Lib.hid (Below.next0 HB1.out hb2); clear hb2))
  have hB0 : Below wc.heap.size wc (wc.alloc (.cells (Array.replicate (A.length + K.length) (nv .u64 0)) 74)) := (Below.refl _ _).alloc (Nat.le_refl _) _
  have hA0 := Arr.zeros wc 74 .u64 (A.length + K.length)
  have HWA := Lib.hid (And.intro (HW.out.1 wc HB2.out) (HW.out.2 wc HB2.out))
  have H0 := Lib.hid (And.intro hB0 hA0)
  clear hB0 hA0 hmk h0 HW HC
  go_loopw [34] (fun iv wr => ∃ (i : Nat) (L : List Nat), iv = .int .i64 (i : Int) ∧ i ≤ A.length ∧ Arr 74 .u64 wr wc.heap.size L ∧ L.length = A.length + K.length ∧ Low (2 ^ 64) L ∧ val (2 ^ 64) L = val (2 ^ 64) (A.take i) * val (2 ^ 64) K ∧ (∀ t, i + K.length ≤ t → t < A.length + K.length → L[t]? = some 0) ∧ Below wc.heap.size wc wr) (fun iv _ => A.length - (intOf iv).toNat)
  case atStart =>
    refine ⟨0, List.replicate (A.length + K.length) 0, rfl, Nat.zero_le _, H0.out.2, by simp, fun x hx => ?_, by rw [val_zeros]; simp [val], fun t _ ht => ?_, H0.out.1⟩
    · rw [List.eq_of_mem_replicate hx]; decide
    · rw [List.getElem?_replicate]; simp [ht]
  case round =>
    obtain ⟨i, L, rfl, hi, hL, hLl, hLow, hval, hzer, hbw⟩ := hrel
    by_cases hlt : i < A.length
    · have hlt' : (i : Int) < (A.length : Int) := by omega
      obtain ⟨x, hx⟩ : ∃ x, A[i]? = some x := ⟨_, List.getElem?_eq_getElem hlt⟩
      obtain ⟨ba, oa, hae, hba, hcx⟩ := (HWA.out.1.rd.below hbw).at_ hx
      have hxl : x < 18446744073709551616 := HWA.out.1.low x (List.mem_of_getElem? hx)
      subst hae
      have HH := Lib.hid (And.intro hL (And.intro hLow (And.intro hval (And.intro hbw (And.intro hx hzer)))))
      clear hL hLow hval hbw hzer hx
      go_wp2_with fail
      go_loopw [8, 41] (fun cv jv wr => ∃ (j cr : Nat) (L : List Nat), cv = .int .u64 (cr : Int) ∧ jv = .int .i64 (j : Int) ∧ j ≤ K.length ∧ cr < 18446744073709551616 ∧ Arr 74 .u64 wr wc.heap.size L ∧ L.length = A.length + K.length ∧ Low (2 ^ 64) L ∧ val (2 ^ 64) L + cr * (2 ^ 64) ^ (i + j) = val (2 ^ 64) (A.take i) * val (2 ^ 64) K + x * (2 ^ 64) ^ i * val (2 ^ 64) (K.take j) ∧ (∀ t, i + K.length ≤ t → t < A.length + K.length → L[t]? = some 0) ∧ Below wc.heap.size wc wr) (fun _ jv _ => K.length - (intOf jv).toNat)
      case atStart => exact ⟨0, 0, L, rfl, rfl, Nat.zero_le _, by decide, HH.out.1, hLl, HH.out.2.1, by rw [HH.out.2.2.1]; simp [val], HH.out.2.2.2.2.2, HH.out.2.2.2.1⟩
      case round =>
        have HX := Lib.hid HH.out.2.2.2.2.1
        clear hLl HH
        obtain ⟨j, cr, L, rfl, rfl, hj, hcr, hL, hLl, hLow, hval, hzer, hbw⟩ := hrel
        by_cases hlj : j < K.length
        · have hlj' : (j : Int) < (K.length : Int) := by omega
          obtain ⟨y, hy⟩ : ∃ y, K[j]? = some y := ⟨_, List.getElem?_eq_getElem hlj⟩
          obtain ⟨z, hz⟩ : ∃ z, L[i + j]? = some z := ⟨_, List.getElem?_eq_getElem (by omega)⟩
          obtain ⟨bb, ob, hbe, hbb, hcy⟩ := (HWA.out.2.rd.below hbw).at_ hy
          have hyl : y < 18446744073709551616 := HWA.out.2.low y (List.mem_of_getElem? hy)
          have hzl : z < 18446744073709551616 := hLow z (List.mem_of_getElem? hz)
          subst hbe
          have hms := mul_step (B := 18446744073709551616) (by decide) hxl hyl hzl hcr
          have hst := add_step (B := 2 ^ 64) (b := x * y) (c := cr) hz hval
          rw [inner_step hy] at hst
          rw [show (z + x * y + cr) % 2 ^ 64 = ((x * y % 18446744073709551616 + z) % 18446744073709551616 + cr) % 18446744073709551616 from hms.1.symm, show (z + x * y + cr) / 2 ^ 64 = x * y / 18446744073709551616 + (x * y % 18446744073709551616 + z) / 18446744073709551616 + ((x * y % 18446744073709551616 + z) % 18446744073709551616 + cr) / 18446744073709551616 from hms.2.1.symm] at hst
          have hml := hms.2.2
          rw [← hms.2.1] at hml
          have hmul := fun W => Tryz.bits_Mul64 x y hxl hyl W
          have hlol : x * y % 18446744073709551616 < 18446744073709551616 := Nat.mod_lt _ (by decide)
          generalize x * y % 18446744073709551616 = lo at *
          generalize x * y / 18446744073709551616 = hi at *
          have hadd1 : ∀ W, (callFunc 148 #[.int .u64 (lo : Int), .int .u64 (z : Int), .int .u64 0]).run Tryz.prog W = .ok (.value (.tuple #[.int .u64 (((lo + z) % 18446744073709551616 : Nat) : Int), .int .u64 (((lo + z) / 18446744073709551616 : Nat) : Int)])) W := fun W => add64_run lo z 0 hlol hzl (by decide) W
          have hl1 : (lo + z) % 18446744073709551616 < 18446744073709551616 := Nat.mod_lt _ (by decide)
          generalize (lo + z) % 18446744073709551616 = lo1 at *
          generalize (lo + z) / 18446744073709551616 = m1 at *
          have hadd2 : ∀ W, (callFunc 148 #[.int .u64 (lo1 : Int), .int .u64 (cr : Int), .int .u64 0]).run Tryz.prog W = .ok (.value (.tuple #[.int .u64 (((lo1 + cr) % 18446744073709551616 : Nat) : Int), .int .u64 (((lo1 + cr) / 18446744073709551616 : Nat) : Int)])) W := fun W => add64_run lo1 cr 0 hl1 hcr (by decide) W
          have hl2 : (lo1 + cr) % 18446744073709551616 < 18446744073709551616 := Nat.mod_lt _ (by decide)
          generalize (lo1 + cr) % 18446744073709551616 = lo2 at *
          generalize (lo1 + cr) / 18446744073709551616 = m2 at *
          have hzc : wr.cell? ⟨wc.heap.size, i + j, none⟩ = some (.int .u64 (z : Int)) := hL.cell hz
          have hzf : wr.frozen? ⟨wc.heap.size, i + j, none⟩ = false := hL.frozen _
          have hij : (i : Int) + (j : Int) < (A.length : Int) + (K.length : Int) := by omega
          have HM := Lib.hid hmul
          have HH := Lib.hid (And.intro hst (And.intro hL (And.intro hLow (And.intro hbw hzer))))
          clear hmul hst hL hLow hval hbw hzer hms hy hz
          go_wp2_with (refine (HM.out _).mono ?_; rintro e w5 ⟨rfl, rfl⟩)
          refine ⟨⟨j + 1, hi + m1 + m2, L.set (i + j) lo2, by simp, by simp, by omega, hml, HH.out.2.1.set (i + j) lo2, by simp [hLl], low_set HH.out.2.2.1 hl2, HH.out.1, fun t ht1 ht2 => ?_, HH.out.2.2.2.1.setCell (p := ⟨wc.heap.size, i + j, none⟩) (Nat.le_refl _) _⟩, by simp only [intOf]; omega⟩
          rw [List.getElem?_set_ne (by omega)]
          exact HH.out.2.2.2.2 t ht1 ht2
        · obtain rfl : j = K.length := by omega
          have hlj' : ¬ ((K.length : Int) < (K.length : Int)) := by omega
          have hz0 := hzer (i + K.length) (Nat.le_refl _) (by omega)
          have hzc : wr.cell? ⟨wc.heap.size, i + K.length, none⟩ = some (.int .u64 0) := hL.cell hz0
          have hzf : wr.frozen? ⟨wc.heap.size, i + K.length, none⟩ = false := hL.frozen _
          have hij : (i : Int) + (K.length : Int) < (A.length : Int) + (K.length : Int) := by omega
          have hvs := val_set (B := 2 ^ 64) L (i + K.length) cr 0 hz0
          rw [Nat.zero_mul, Nat.add_zero, hval, List.take_length] at hvs
          have hvo := outer_step HX.out hvs
          have HH := Lib.hid (And.intro hvo (And.intro hL (And.intro hLow (And.intro hbw hzer))))
          clear hvs hvo hval hL hLow hbw hzer hz0
          go_wp2_with fail
          refine ⟨⟨i + 1, L.set (i + K.length) cr, by simp, by omega, HH.out.2.1.set _ cr, by simp [hLl], low_set HH.out.2.2.1 hcr, HH.out.1, fun t ht1 ht2 => ?_, HH.out.2.2.2.1.setCell (p := ⟨wc.heap.size, i + K.length, none⟩) (Nat.le_refl _) _⟩, by simp only [intOf]; omega⟩
          rw [List.getElem?_set_ne (by omega)]
          exact HH.out.2.2.2.2 t (by omega) ht2
    · obtain rfl : i = A.length := by omega
      have hlt' : ¬ ((A.length : Int) < (A.length : Int)) := by omega
      rw [List.take_length] at hval
      have hW : WordsIn wr (some ⟨wc.heap.size, 0, none⟩) (A.length + K.length) (A.length + K.length) L := ⟨hLl, Nat.le_refl _, by omega, hLow, hL.rd⟩
      have hbq : Below w.heap.size w wr := Below.next0 HB2.out hbw
      have hdig : trimL L = dig (2 ^ 64) (val (2 ^ 64) A * val (2 ^ 64) K) := by rw [trim_dig (by decide) hLow, hval]
      have HE := Lib.hid (And.intro hW (And.intro hbq hdig))
      clear hW hbq hdig hval hL hLow hzer hbw
      go_wp2_with (refine (cut_any _ _ _ _ _ HE.out.1).mono ?_; rintro e w5 ⟨rfl, hb5⟩; have HB5 := Lib.hid hb5; clear hb5)
      go_ret
      have hout := (HE.out.1.step HB5.out).trim
      rw [HE.out.2.2] at hout ⊢
      exact ⟨_, _, _, rfl, hout, Below.next0 HE.out.2.1 HB5.out⟩
end Go.Proofs.YtdilmfakkppgpaaGreatDoor
namespace Go.Proofs.YtdilmfakkppgpaaGreatDoor
open Go.RowKit WordsM
def dy (n e : Int) : Dyadic := Dyadic.ofIntWithPrec n (-e)
theorem dy_rat (n e : Int) : (dy n e).toRat = (n : Rat) * 2 ^ e := by
  unfold dy
  rw [Dyadic.toRat_ofIntWithPrec_eq_mul_two_pow, Int.neg_neg]
theorem dy_add (a b e : Int) : dy a e + dy b e = dy (a + b) e := by
  rw [← Dyadic.toRat_inj, Dyadic.toRat_add, dy_rat, dy_rat, dy_rat, Rat.intCast_add, Rat.add_mul]
theorem dy_neg (a e : Int) : - dy a e = dy (-a) e := by
  unfold dy; rw [Dyadic.neg_ofIntWithPrec]
theorem dy_mul (a b e f : Int) : dy a e * dy b f = dy (a * b) (e + f) := by
  rw [← Dyadic.toRat_inj, Dyadic.toRat_mul, dy_rat, dy_rat, dy_rat, Rat.intCast_mul, Rat.zpow_add (by decide)]
  generalize (2 : Rat) ^ e = x
  generalize (2 : Rat) ^ f = y
  grind
theorem dy_up (a e : Int) (k : Nat) : dy a (e + k) = dy (a * 2 ^ k) e := by
  rw [← Dyadic.toRat_inj, dy_rat, dy_rat, Rat.zpow_add (by decide), Rat.intCast_mul, Rat.intCast_pow, Rat.zpow_natCast]
  generalize (2 : Rat) ^ e = x
  rw [show ((2 : Int) : Rat) = 2 from rfl]
  generalize (2 : Rat) ^ k = y
  grind
theorem dy_odd {a e : Int} (h : a % 2 = 1) : dy a e = .ofOdd a (-e) h := Dyadic.ofOdd_eq_ofIntWithPrec.symm
theorem dy_inj {a b e f : Int} (ha : a % 2 = 1) (hb : b % 2 = 1) (h : dy a e = dy b f) : a = b ∧ e = f := by
  rw [dy_odd ha, dy_odd hb] at h
  injection h with h1 h2
  exact ⟨h1, by omega⟩
theorem dy_ne {a e : Int} (ha : a % 2 = 1) : dy a e ≠ 0 := by
  rw [dy_odd ha]; exact Dyadic.of_ne_zero
def sgn (neg : Bool) (v : Nat) : Int := if neg = true then -(v : Int) else (v : Int)
theorem sgn_zero (neg : Bool) : sgn neg 0 = 0 := by cases neg <;> rfl
theorem sgn_odd {neg : Bool} {v : Nat} (h : v % 2 = 1) : sgn neg v % 2 = 1 := by
  unfold sgn; split <;> omega
theorem sgn_abs (neg : Bool) (v : Nat) : (sgn neg v).natAbs = v := by
  unfold sgn; split <;> omega
theorem sgn_inj {n m : Bool} {v u : Nat} (hv : v ≠ 0) (h : sgn n v = sgn m u) : n = m ∧ v = u := by
  unfold sgn at h
  cases n <;> cases m <;> simp at h <;> first | (refine ⟨rfl, ?_⟩; omega) | (exfalso; omega)
theorem sgn_not (n : Bool) (v : Nat) : sgn (!n) v = - sgn n v := by
  cases n <;> simp [sgn]
theorem sgn_mul (n m : Bool) (v u : Nat) : sgn n v * sgn m u = sgn (n != m) (v * u) := by
  cases n <;> cases m <;> simp [sgn, Int.neg_mul, Int.mul_neg]
theorem sgn_mul_pow (n : Bool) (v k : Nat) : sgn n v * 2 ^ k = sgn n (v * 2 ^ k) := by
  cases n <;> simp [sgn, Int.neg_mul]
def fits (d : Dyadic) : Prop := d = 0 ∨ ∃ m e : Int, d = dy m e ∧ m % 2 = 1 ∧ m.natAbs < (2 ^ 64) ^ 64 ∧ -65536 ≤ e ∧ e ≤ 65536
def numD (neg : Bool) (e : Int) (L : List Nat) : Dyadic := dy (sgn neg (val (2 ^ 64) L)) e
theorem numD_nil : numD false 0 [] = 0 := rfl
theorem isnum_cases {neg : Bool} {e : Int} {L : List Nat} (h : IsNum neg e L) (hl : Low (2 ^ 64) L) :
    (L = [] ∧ neg = false ∧ e = 0) ∨ (L ≠ [] ∧ val (2 ^ 64) L % 2 = 1 ∧ L = dig (2 ^ 64) (val (2 ^ 64) L) ∧ val (2 ^ 64) L < (2 ^ 64) ^ 64 ∧ -65536 ≤ e ∧ e ≤ 65536) := by
  unfold IsNum at h
  by_cases hL : L = []
  · rw [if_pos hL] at h; exact .inl ⟨hL, h⟩
  · rw [if_neg hL] at h
    obtain ⟨h1, h2, h3, h4, h5⟩ := h
    have ht : trimL L = L := by
      have := trim_take L
      rw [h1, List.take_length] at this
      exact this.symm
    refine .inr ⟨hL, ?_, ?_, ?_, h4, h5⟩
    · cases L with
      | nil => exact absurd rfl hL
      | cons x r =>
        have h3' : x % 2 = 1 := h3
        simp only [val]
        omega
    · rw [← trim_dig (by decide) hl, ht]
    · exact Nat.lt_of_lt_of_le (val_lt (by decide) L hl) (Nat.pow_le_pow_right (by decide) h2)
theorem isnum_fits {neg : Bool} {e : Int} {L : List Nat} (h : IsNum neg e L) (hl : Low (2 ^ 64) L) : fits (numD neg e L) := by
  rcases isnum_cases h hl with ⟨rfl, rfl, rfl⟩ | ⟨_, h1, _, h2, h3, h4⟩
  · exact .inl rfl
  · exact .inr ⟨_, _, rfl, sgn_odd h1, by rw [sgn_abs]; exact h2, h3, h4⟩
theorem isnum_zero {neg : Bool} {e : Int} {L : List Nat} (h : IsNum neg e L) (hl : Low (2 ^ 64) L) : numD neg e L = 0 ↔ L = [] := by
  rcases isnum_cases h hl with ⟨rfl, rfl, rfl⟩ | ⟨h0, h1, _⟩
  · exact ⟨fun _ => rfl, fun _ => rfl⟩
  · exact ⟨fun h => absurd h (dy_ne (sgn_odd h1)), fun h => absurd h h0⟩
theorem num_inj {n m : Bool} {e f : Int} {L K : List Nat} (h1 : IsNum n e L) (l1 : Low (2 ^ 64) L) (h2 : IsNum m f K) (l2 : Low (2 ^ 64) K) (h : numD n e L = numD m f K) : n = m ∧ e = f ∧ L = K := by
  rcases isnum_cases h1 l1 with ⟨rfl, rfl, rfl⟩ | ⟨h0, ho, hd, _⟩
  · have hz : numD m f K = 0 := h.symm
    have hK := (isnum_zero h2 l2).1 hz
    subst hK
    unfold IsNum at h2
    rw [if_pos rfl] at h2
    exact ⟨h2.1.symm, h2.2.symm, rfl⟩
  · rcases isnum_cases h2 l2 with ⟨rfl, rfl, rfl⟩ | ⟨k0, ko, kd, _⟩
    · exact absurd h (dy_ne (sgn_odd ho))
    · obtain ⟨hs, he⟩ := dy_inj (sgn_odd ho) (sgn_odd ko) h
      obtain ⟨hn, hv⟩ := sgn_inj (by omega) hs
      exact ⟨hn, he, by rw [hd, kd, hv]⟩
theorem tz_dy {v z : Nat} (h : IsTz v z) (neg : Bool) (e : Int) : dy (sgn neg (v / 2 ^ z)) (e + z) = dy (sgn neg v) e := by
  rw [dy_up, sgn_mul_pow, Nat.div_mul_cancel (Nat.dvd_of_mod_eq_zero h.1)]
theorem dig_big {v : Nat} (h : v < (2 ^ 64) ^ 64) : (dig (2 ^ 64) v).length ≤ 64 := dig_len_le (by decide) h
theorem big_dig {v : Nat} (h : (dig (2 ^ 64) v).length ≤ 64) : v < (2 ^ 64) ^ 64 := by
  have h1 := val_lt (B := 2 ^ 64) (by decide) (dig (2 ^ 64) v) (dig_low (by decide) v)
  rw [val_dig (by decide)] at h1
  exact Nat.lt_of_lt_of_le h1 (Nat.pow_le_pow_right (by decide) h)
theorem odd_isnum {neg : Bool} {e : Int} {q : Nat} (ho : q % 2 = 1) : IsNum neg e (dig (2 ^ 64) q) ↔ (q < (2 ^ 64) ^ 64 ∧ -65536 ≤ e ∧ e ≤ 65536) := by
  have hq0 : q ≠ 0 := by omega
  have hne : dig (2 ^ 64) q ≠ [] := fun h => hq0 ((dig_nil (by decide)).1 h)
  have ht : trimL (dig (2 ^ 64) q) = dig (2 ^ 64) q := by rw [trim_dig (by decide) (dig_low (by decide) q), val_dig (by decide)]
  have hh : (dig (2 ^ 64) q).headD 0 % 2 = 1 := by
    rw [dig_step (by decide) hq0]
    show q % 2 ^ 64 % 2 = 1
    omega
  unfold IsNum
  rw [if_neg hne, ht]
  constructor
  · rintro ⟨_, h2, _, h4, h5⟩; exact ⟨big_dig h2, h4, h5⟩
  · rintro ⟨h1, h2, h3⟩; exact ⟨rfl, dig_big h1, hh, h2, h3⟩
theorem fits_odd {neg : Bool} {e : Int} {q : Nat} (ho : q % 2 = 1) : fits (dy (sgn neg q) e) ↔ (q < (2 ^ 64) ^ 64 ∧ -65536 ≤ e ∧ e ≤ 65536) := by
  constructor
  · rintro (h | ⟨m, f, h, hm, h1, h2, h3⟩)
    · exact absurd h (dy_ne (sgn_odd ho))
    · obtain ⟨rfl, rfl⟩ := dy_inj (sgn_odd ho) hm h
      rw [sgn_abs] at h1
      exact ⟨h1, h2, h3⟩
  · rintro ⟨h1, h2, h3⟩
    exact .inr ⟨_, _, rfl, sgn_odd ho, by rw [sgn_abs]; exact h1, h2, h3⟩
def FitOut (d : Dyadic) (n' : Bool) (e' : Int) (L : List Nat) (er : Int) : Prop :=
  (fits d ∧ er = 0 ∧ IsNum n' e' L ∧ numD n' e' L = d) ∨ (¬ fits d ∧ er = 2 ∧ n' = false ∧ e' = 0 ∧ L = [])
theorem make_fit {neg : Bool} {v : Nat} {exp : Int} {n' : Bool} {e' : Int} {L : List Nat} {er : Int} (h : MakeOut neg v exp n' e' L er) : FitOut (dy (sgn neg v) exp) n' e' L er := by
  rcases h with ⟨rfl, rfl, rfl, rfl, rfl⟩ | ⟨z, hz, h⟩
  · exact .inl ⟨by rw [sgn_zero]; exact .inl rfl, rfl, by decide, by rw [sgn_zero]; rfl⟩
  · have hf := fits_odd (neg := neg) (e := exp + z) hz.2
    have hi := odd_isnum (neg := neg) (e := exp + z) hz.2
    rw [tz_dy hz] at hf
    rcases h with ⟨h, rfl, rfl, rfl, rfl⟩ | ⟨h1, h2, h3, rfl, rfl, rfl, rfl⟩
    · refine .inr ⟨fun hfit => ?_, rfl, rfl, rfl, rfl⟩
      have h4 := hf.1 hfit
      rcases h with h | h | h
      · omega
      · omega
      · exact h (hi.2 h4)
    · refine .inl ⟨hf.2 (hi.1 h3), rfl, h3, ?_⟩
      unfold numD
      rw [val_dig (by decide), tz_dy hz]
end Go.Proofs.YtdilmfakkppgpaaGreatDoor
namespace Go.Proofs.YtdilmfakkppgpaaGreatDoor
open Go.RowKit WordsM
section
variable {w : World} {b g : Nat} {v0 v1 v2 : Value}
theorem NumBox.set0 (h : NumBox w b v0 v1 v2) (u : Value) : NumBox (w.setCell ⟨b, 0, none⟩ u) b u v1 v2 :=
  ⟨World.cell?_setCell_same' _ _ _ (by rw [h.c0]; rfl), (World.cell?_setCell_other _ _ _ _ (by simp)).trans h.c1, (World.cell?_setCell_other _ _ _ _ (by simp)).trans h.c2, (World.frozen?_setCell _ _ _ _).trans h.f0, (World.frozen?_setCell _ _ _ _).trans h.f1, (World.frozen?_setCell _ _ _ _).trans h.f2⟩
theorem NumBox.set2 (h : NumBox w b v0 v1 v2) (u : Value) : NumBox (w.setCell ⟨b, 2, none⟩ u) b v0 v1 u :=
  ⟨(World.cell?_setCell_other _ _ _ _ (by simp)).trans h.c0, (World.cell?_setCell_other _ _ _ _ (by simp)).trans h.c1, World.cell?_setCell_same' _ _ _ (by rw [h.c2]; rfl), (World.frozen?_setCell _ _ _ _).trans h.f0, (World.frozen?_setCell _ _ _ _).trans h.f1, (World.frozen?_setCell _ _ _ _).trans h.f2⟩
theorem NumBox.far (h : NumBox w b v0 v1 v2) {p : Addr} (hp : p.block ≠ b) (u : Value) : NumBox (w.setCell p u) b v0 v1 v2 :=
  ⟨(World.cell?_setCell_other _ _ _ _ (fun e => hp (by rw [e]))).trans h.c0, (World.cell?_setCell_other _ _ _ _ (fun e => hp (by rw [e]))).trans h.c1, (World.cell?_setCell_other _ _ _ _ (fun e => hp (by rw [e]))).trans h.c2, (World.frozen?_setCell _ _ _ _).trans h.f0, (World.frozen?_setCell _ _ _ _).trans h.f1, (World.frozen?_setCell _ _ _ _).trans h.f2⟩
theorem NumBox.far3 (h : NumBox w b v0 v1 v2) (hg : g ≠ b) (u0 u1 u2 : Value) : NumBox (((w.setCell ⟨g, 0, none⟩ u0).setCell ⟨g, 1, none⟩ u1).setCell ⟨g, 2, none⟩ u2) b v0 v1 v2 :=
  ((h.far (p := ⟨g, 0, none⟩) hg u0).far (p := ⟨g, 1, none⟩) hg u1).far (p := ⟨g, 2, none⟩) hg u2
theorem size3 (w : World) (g : Nat) (u0 u1 u2 : Value) : (((w.setCell ⟨g, 0, none⟩ u0).setCell ⟨g, 1, none⟩ u1).setCell ⟨g, 2, none⟩ u2).heap.size = w.heap.size := by simp [World.size_setCell]
end
set_option maxRecDepth 100000 in
set_option maxHeartbeats 2000000 in
theorem exactsign_any (neg : Bool) (e : Int) (a : Option Addr) (n c : Nat) (ls : List Nat) (w : World) (h : WordsIn w a n c ls) (hn : n ≤ 1000000) :
    Calls Tryz.prog 99 #[.agg #[.bool neg, .int .i64 e, .slice a n c]] w fun r w' => r = .returned (.int .i64 (if val (2 ^ 64) ls = 0 then 0 else if neg = true then -1 else 1)) ∧ Below w.heap.size w w' := by
  have hb0 : Below w.heap.size w (w.alloc (.cells #[.bool neg, .int .i64 e, .slice a n c] 41)) := (Below.refl _ _).alloc (Nat.le_refl _) _
  have hN := NumBox.new w (.bool neg) (.int .i64 e) (.slice a n c) 41
  have hl0 := box_lt w (.cells #[.bool neg, .int .i64 e, .slice a n c] 41)
  have hbits := bits_any a n c ls _ (h.step hb0) (by omega)
  have hk0 := hN.c0
  have hk2 := hN.c2
  have HB := Lib.hid (And.intro hbits (And.intro hN (And.intro hl0 hb0)))
  clear hb0 hN hl0 hbits h
  by_cases h0 : val (2 ^ 64) ls = 0
  · rw [if_pos h0]
    have H0 := Lib.hid h0
    clear h0
    go_enter Tryz.func99, Tryz.ntmps99
    go_wp2_with (refine HB.out.1.mono ?_; rintro r w1 ⟨⟨k, rfl, hk⟩, hb1⟩; obtain rfl : k = 0 := hk.2 H0.out; have HB1 := Lib.hid hb1; clear hb1 hk)
    go_ret
    exact ⟨rfl, Below.next0 HB.out.2.2.2 HB1.out⟩
  · rw [if_neg h0]
    have H0 := Lib.hid h0
    clear h0
    cases neg
    all_goals
      go_enter Tryz.func99, Tryz.ntmps99
      go_wp2_with (refine HB.out.1.mono ?_; rintro r w1 ⟨⟨k, rfl, hk⟩, hb1⟩; have hkb : ((k : Int) == 0) = false := (by rw [beq_eq_false_iff_ne]; intro e; exact H0.out (hk.1 (by omega))); have hki : ¬ (k : Int) = 0 := (by intro e; exact H0.out (hk.1 (by omega))); have hx0 := (HB.out.2.1.step hb1 HB.out.2.2.1).c0; have HB1 := Lib.hid hb1; clear hb1 hk)
      go_ret
      exact ⟨rfl, Below.next0 HB.out.2.2.2 HB1.out⟩
set_option maxRecDepth 100000 in
set_option maxHeartbeats 2000000 in
theorem exactabs_any (neg : Bool) (e : Int) (a : Option Addr) (n c : Nat) (w : World) :
    Calls Tryz.prog 112 #[.agg #[.bool neg, .int .i64 e, .slice a n c]] w fun r w' => r = .returned (.agg #[.bool false, .int .i64 e, .slice a n c]) ∧ Below w.heap.size w w' := by
  have hs1 : (w.alloc (.cells #[.bool neg, .int .i64 e, .slice a n c] 41)).heap.size = w.heap.size + 1 := World.size_alloc _ _
  have hb1 : Below w.heap.size w (w.alloc (.cells #[.bool neg, .int .i64 e, .slice a n c] 41)) := (Below.refl _ _).alloc (Nat.le_refl _) _
  have hb2 : Below (w.alloc (.cells #[.bool neg, .int .i64 e, .slice a n c] 41)).heap.size (w.alloc (.cells #[.bool neg, .int .i64 e, .slice a n c] 41)) ((w.alloc (.cells #[.bool neg, .int .i64 e, .slice a n c] 41)).alloc (.cells #[.bool false, .int .i64 0, .slice none 0 0] 41)) := (Below.refl _ _).alloc (Nat.le_refl _) _
  have hX := (NumBox.new w (.bool neg) (.int .i64 e) (.slice a n c) 41).step hb2 (box_lt _ _)
  have hR := NumBox.new (w.alloc (.cells #[.bool neg, .int .i64 e, .slice a n c] 41)) (.bool false) (.int .i64 0) (.slice none 0 0) 41
  rw [hs1] at hR
  have hB := Below.next0 hb1 hb2
  generalize hW : (w.alloc (.cells #[.bool neg, .int .i64 e, .slice a n c] 41)).alloc (.cells #[.bool false, .int .i64 0, .slice none 0 0] 41) = W at hX hR hB
  have hx0 := hX.c0
  have hg0 := hX.f0
  have hX1 := hX.set0 (.bool false)
  have hx1 := hX1.c0
  have hx2 := hX1.c1
  have hx3 := hX1.c2
  have hR1 := hR.far (p := ⟨w.heap.size, 0, none⟩) (by show w.heap.size ≠ w.heap.size + 1; omega) (.bool false)
  have hB1 := hB.setCell (p := ⟨w.heap.size, 0, none⟩) (Nat.le_refl _) (.bool false)
  have c0 := hR1.c0
  have c1 := hR1.c1
  have c2 := hR1.c2
  have f0 := hR1.f0
  have f1 := hR1.f1
  have f2 := hR1.f2
  have d1 := hR1.d1 (.bool false)
  have d2 := hR1.d2 (.bool false) (.int .i64 e)
  have HR := Lib.hid (And.intro (hR1.store (.bool false) (.int .i64 e) (.slice a n c)) (NumBox.below hB1 (show w.heap.size ≤ w.heap.size + 1 by omega) (.bool false) (.int .i64 e) (.slice a n c)))
  clear hs1 hb1 hb2 hX hR hB hX1 hR1 hB1
  go_enter Tryz.func112, Tryz.ntmps112
  go_wp2_with fail
  have k0 := HR.out.1.c0
  have k1 := HR.out.1.c1
  have k2 := HR.out.1.c2
  refine ⟨rfl, .agg #[.bool false, .int .i64 e, .slice a n c], by simp [results, go_sem, k0, k1, k2], rfl, HR.out.2⟩
structure AddPre (w wx : World) (D : Dyadic) (T lo hi : Int) (n1 : Bool) (e1 : Int) (a1 : Option Addr) (l1 c1 : Nat) (L1 : List Nat) (n2 : Bool) (e2 : Int) (a2 : Option Addr) (l2 c2 : Nat) (L2 : List Nat) : Prop where
  b1 : NumBox wx w.heap.size (.bool n1) (.int .i64 e1) (.slice a1 l1 c1)
  b2 : NumBox wx (w.heap.size + 1) (.bool n2) (.int .i64 e2) (.slice a2 l2 c2)
  br : NumBox wx (w.heap.size + 2) (.bool false) (.int .i64 0) (.slice none 0 0)
  lt : w.heap.size + 2 < wx.heap.size
  w1 : WordsIn w a1 l1 c1 L1
  w2 : WordsIn w a2 l2 c2 L2
  le : e1 ≤ e2
  v1 : val (2 ^ 64) L1 ≠ 0
  v2 : val (2 ^ 64) L2 ≠ 0
  s1 : l1 ≤ 20000
  s2 : l2 ≤ 20000
  lo1 : lo ≤ e1
  hi2 : e2 ≤ hi
  rng : e2 - e1 ≤ 2000000
  t1 : 64 * (l1 : Int) + e1 ≤ T
  t2 : 64 * (l2 : Int) + e2 ≤ T
  sum : numD n1 e1 L1 + numD n2 e2 L2 = D
  bel : Below w.heap.size w wx
theorem dig_bits {v K : Nat} (h : v < 2 ^ K) : 64 * (dig (2 ^ 64) v).length ≤ K + 63 := by
  have h1 : v < (2 ^ 64) ^ ((K + 63) / 64) := Nat.lt_of_lt_of_le h (by rw [← Nat.pow_mul]; exact Nat.pow_le_pow_right (by decide) (by omega))
  have h2 := dig_len_le (B := 2 ^ 64) (by decide) h1
  omega
theorem words_bits {L : List Nat} (h : Low (2 ^ 64) L) : val (2 ^ 64) L < 2 ^ (64 * L.length) := by
  have := val_lt (B := 2 ^ 64) (by decide) L h
  rwa [← Nat.pow_mul] at this
theorem add_same (n : Bool) (A B : Nat) : sgn n A + sgn n B = sgn n (A + B) := by
  cases n <;> simp [sgn] <;> omega
theorem add_other (n : Bool) (A B : Nat) : sgn n A + sgn (!n) B = if B ≤ A then sgn n (A - B) else sgn (!n) (B - A) := by
  cases n <;> simp [sgn] <;> split <;> omega
theorem numD_up (n : Bool) (e1 e2 : Int) (L : List Nat) (z : Nat) (h : e2 - e1 = (z : Int)) : numD n e2 L = dy (sgn n (val (2 ^ 64) L * 2 ^ z)) e1 := by
  unfold numD
  rw [show e2 = e1 + (z : Int) by omega, dy_up, sgn_mul_pow]
theorem numD_dig (n : Bool) (e : Int) (v : Nat) : numD n e (dig (2 ^ 64) v) = dy (sgn n v) e := by
  unfold numD; rw [val_dig (by decide)]
theorem numD_none (n : Bool) (e : Int) {L : List Nat} (h : val (2 ^ 64) L = 0) : numD n e L = 0 := by
  unfold numD; rw [h, sgn_zero]; rfl
theorem add_fit {A B l1 l2 z V : Nat} {e1 e2 T : Int} (hA : A < 2 ^ (64 * l1)) (hB : B < 2 ^ (64 * l2)) (hV : V ≤ A + B * 2 ^ z) (hz : e2 - e1 = (z : Int)) (t1 : 64 * (l1 : Int) + e1 ≤ T) (t2 : 64 * (l2 : Int) + e2 ≤ T) : 64 * ((dig (2 ^ 64) V).length : Int) + e1 ≤ T + 64 := by
  obtain ⟨K, hK1, hK2, hK3⟩ : ∃ K : Nat, 64 * l1 ≤ K ∧ 64 * l2 + z ≤ K ∧ (K : Int) + e1 ≤ T := ⟨max (64 * l1) (64 * l2 + z), by omega, by omega, by omega⟩
  have h1 : A < 2 ^ K := Nat.lt_of_lt_of_le hA (Nat.pow_le_pow_right (by decide) hK1)
  have h2 : B * 2 ^ z < 2 ^ K := Nat.lt_of_lt_of_le (by rw [Nat.pow_add]; exact Nat.mul_lt_mul_of_pos_right hB (Nat.pow_pos (by decide))) (Nat.pow_le_pow_right (by decide) hK2)
  have h3 : V < 2 ^ (K + 1) := by rw [Nat.pow_succ]; omega
  have h4 := dig_bits h3
  omega
end Go.Proofs.YtdilmfakkppgpaaGreatDoor
namespace Go.Proofs.YtdilmfakkppgpaaGreatDoor
open Go Go.RowKit
section
variable {P : Program} {ops : Array Oper}
def FlatUponE (P : Program) (E : World → World → Prop) (V : Value → World → Prop) (w : World) : Result Next → Prop
  | .ok (.value u) w' => E w w' ∧ V u w'
  | .ok (.enter f args) w' => Calls P f args w' fun e w'' => ∃ v, e = .returned v ∧ E w w'' ∧ V v w''
  | .ok .skip w' => E w w' ∧ V undef w'
  | _ => False
def FlatStepE (P : Program) (E : World → World → Prop) (ops : Array Oper) (C : World → Prop) (V : Nat → Value → World → Prop) (a0 : Act) (k : Nat) (o : Oper) : Prop :=
  ∀ a w, C w → Agree ops a0 a → (∀ i ∈ depsOf o, V i (slotOf ops a i) w) →
    if Region.wanted o (yielded ops a.tmps) then FlatUponE P E (V k) w ((execOp a.eval o).run P w) else V k undef w
def FlatAllE (P : Program) (E : World → World → Prop) (ops : Array Oper) (C : World → Prop) (V : Nat → Value → World → Prop) (a0 : Act) : List Oper → Nat → Prop
  | [], _ => True
  | o :: r, k => FlatStepE P E ops C V a0 k o ∧ FlatAllE P E ops C V a0 r (k + 1)
theorem FlatAllE.at_ {E : World → World → Prop} {C : World → Prop} {V : Nat → Value → World → Prop} {a0 : Act} (l : List Oper) : ∀ (k i : Nat) (o : Oper), FlatAllE P E ops C V a0 l k → l[i]? = some o → FlatStepE P E ops C V a0 (k + i) o := by
  induction l with
  | nil => intro k i o _ ho; simp at ho
  | cons x r ih =>
    intro k i o h ho
    cases i with
    | zero =>
      simp only [List.getElem?_cons_zero, Option.some.injEq] at ho
      subst ho
      exact h.1
    | succ i =>
      have := ih (k + 1) i o h.2 (by simpa using ho)
      rwa [show k + 1 + i = k + (i + 1) by omega] at this
theorem putAll_eqE (a : Act) : ∀ (l : List Oper) (k : Nat) (vs : Nat → Value) (b : Act), (∀ (j : Nat) o t, l[j]? = some o → o.dst = some t → t < a.tmps.size ∧ vs (k + j) = a.tmps.getD t undef) →
    b.defers = a.defers → b.tmps.size = a.tmps.size → (∀ t, (∀ o ∈ l, o.dst ≠ some t) → b.tmps[t]? = a.tmps[t]?) → putAll vs l k b = a
  | [], _, _, b, _, hd, _, ht => by
    obtain ⟨bt, bd⟩ := b
    obtain ⟨at_, ad⟩ := a
    simp only at hd ht
    subst hd
    show (Act.mk bt bd) = _
    congr 1
    exact Array.ext_getElem? fun t => ht t (by simp)
  | o :: r, k, vs, b, hs, hd, hz, ht => by
    have hrec : ∀ (j : Nat) o' t, r[j]? = some o' → o'.dst = some t → t < a.tmps.size ∧ vs (k + 1 + j) = a.tmps.getD t undef := fun j o' t ho' hd' => by
      have := hs (j + 1) o' t (by simpa using ho') hd'
      rwa [show k + (j + 1) = k + 1 + j by omega] at this
    cases hto : o.dst with
    | none =>
      have : putAll vs (o :: r) k b = putAll vs r (k + 1) b := by
        show putAll vs r (k + 1) (b.put o.dst (vs k)) = _
        rw [hto]; rfl
      rw [this]
      refine putAll_eqE a r (k + 1) vs b hrec hd hz fun t' ht' => ht t' fun o' ho' => ?_
      rcases List.mem_cons.1 ho' with rfl | h
      · rw [hto]; simp
      · exact ht' o' h
    | some t =>
      obtain ⟨htl, hv⟩ := hs 0 o t rfl hto
      refine putAll_eqE a r (k + 1) vs (b.put o.dst (vs k)) hrec ?_ ?_ fun t' ht' => ?_
      · rw [hto]; exact hd
      · rw [hto, put_tmps, Array.size_setIfInBounds]; exact hz
      · rw [hto, put_tmps, Array.getElem?_setIfInBounds]
        split
        · next e =>
          subst e
          rw [if_pos (by rw [hz]; exact htl)]
          have : vs k = a.tmps.getD t undef := by simpa using hv
          rw [this, Array.getD_eq_getD_getElem?, Array.getElem?_eq_getElem htl]; rfl
        · next e =>
          refine ht t' fun o' ho' => ?_
          rcases List.mem_cons.1 ho' with rfl | h
          · rw [hto]; simpa using e
          · exact ht' o' h
def flatBE (ops : List Oper) (n : Nat) : Bool := ops.all (fun o => match o.dst with | some t => decide (t < n) | none => true) && (ops.zipIdx.all fun p => ops.zipIdx.all fun q => p.2 == q.2 || p.1.dst.isNone || !(p.1.dst == q.1.dst)) && (ops.zipIdx.all fun p => p.1.after.toList.all fun e => decide (e.on < p.2) || !Region.binds .any e) && ops.all fun o => match o.op with | .defer _ => false | _ => true
theorem flat_specE {l : List Oper} {n : Nat} (h : flatBE l n = true) : (∀ (i : Nat) o t, l[i]? = some o → o.dst = some t → t < n) ∧ (∀ (i j : Nat) oi oj t, l[i]? = some oi → l[j]? = some oj → oi.dst = some t → oj.dst = some t → i = j) ∧ (∀ (i : Nat) o, l[i]? = some o → ∀ e ∈ o.after.toList, Region.binds .any e = true → e.on < i) ∧ (∀ (i : Nat) o, l[i]? = some o → ∀ c, o.op ≠ .defer c) := by
  unfold flatBE at h
  simp only [Bool.and_eq_true] at h
  obtain ⟨⟨⟨h1, h2⟩, h3⟩, h4⟩ := h
  refine ⟨fun i o t ho hd => ?_, fun i j oi oj t hi hj hdi hdj => ?_, fun i o ho e he hb => ?_, fun i o ho c hc => ?_⟩
  · have := List.all_eq_true.1 h1 o (List.mem_of_getElem? ho)
    rw [hd] at this
    simpa using this
  · have hmi : (oi, i) ∈ l.zipIdx := by rw [List.mem_zipIdx_iff_getElem?]; exact hi
    have hmj : (oj, j) ∈ l.zipIdx := by rw [List.mem_zipIdx_iff_getElem?]; exact hj
    have := List.all_eq_true.1 (List.all_eq_true.1 h2 _ hmi) _ hmj
    rw [hdi, hdj] at this
    simpa using this
  · have hm : (o, i) ∈ l.zipIdx := by
      rw [List.mem_zipIdx_iff_getElem?]
      exact ho
    have := List.all_eq_true.1 (List.all_eq_true.1 h3 _ hm) e he
    rw [hb] at this
    simpa using this
  · have := List.all_eq_true.1 h4 o (List.mem_of_getElem? ho)
    rw [hc] at this
    cases this
variable {F : Fence} {n : Nat} {Q : Exit → Act → World → Prop}
structure FlatInvE (ops : Array Oper) (C : World → Prop) (V : Nat → Value → World → Prop) (a0 : Act) (listed : Array Bool) (a : Act) (w : World) : Prop where
  cls : C w
  agree : Agree ops a0 a
  size : listed.size = ops.size
  vals : ∀ j, listed.getD j false = true → V j (slotOf ops a j) w
theorem wpAnyIn_flatE {E : World → World → Prop} (hE : ∀ w, E w w) (hF1 : ∀ f, F.fn f) (hF2 : F.depth = none) (hF3 : ∀ m f args w R, Calls P f args w R → CallsIn F m P f args w R) (C : World → Prop) (hC : ∀ w w', C w → E w w' → C w') (V : Nat → Value → World → Prop) (hV : ∀ i v w w', V i v w → E w w' → V i v w') (hN : ∀ (i : Nat) o, ops[i]? = some o → o.dst = none → ∀ v w, V i v w → V i undef w) (a0 : Act) (hB : flatBE ops.toList a0.tmps.size = true)
    (step : FlatAllE P E ops C V a0 ops.toList 0) (fin : ∀ vs w, C w → (∀ j, j < ops.size → V j (vs j) w) → Q .normal (putAll vs ops.toList 0 a0) w) :
    ∀ (fuel : Nat) (listed : Array Bool) (a : Act) (w : World), listed.toList.count false ≤ fuel → FlatInvE ops C V a0 listed a w → wpAnyIn F n P .any ops Q fuel listed a w := by
  obtain ⟨hd1, hd2, hd3, hd4⟩ := flat_specE hB
  have done : ∀ (listed : Array Bool) (a : Act) (w : World), (∀ j, j < ops.size → listed.getD j false = true) → FlatInvE ops C V a0 listed a w → Q .normal a w := by
    intro listed a w hall inv
    have := fin (slotOf ops a) w inv.cls fun j hj => inv.vals j (hall j hj)
    rwa [putAll_eqE a ops.toList 0 (slotOf ops a) a0 (fun j o t ho h1 => ?_) inv.agree.1.symm inv.agree.2.1.symm (fun t ht => (inv.agree.2.2 t ht).symm)] at this
    refine ⟨by rw [inv.agree.2.1]; exact hd1 j o t ho h1, ?_⟩
    have ho' : ops[j]? = some o := by rw [← Array.getElem?_toList]; exact ho
    unfold slotOf
    rw [Nat.zero_add, ho']
    simp [h1]
  have none_ready : ∀ (listed : Array Bool), listed.size = ops.size → Region.ready .any ops listed = [] → ∀ j, j < ops.size → listed.getD j false = true := by
    intro listed hz hr j
    induction j using Nat.strongRecOn with
    | ind j ih =>
      intro hj
      cases hb : listed.getD j false with
      | true => rfl
      | false =>
        exfalso
        have hjl : j < listed.size := by omega
        have hb' : listed.getD j true = false := by
          rw [Array.getD_eq_getD_getElem?, Array.getElem?_eq_getElem hjl] at hb ⊢
          exact hb
        have ho : ops[j]? = some ops[j] := Array.getElem?_eq_getElem hj
        have : j ∈ Region.ready .any ops listed := mem_ready.2 ⟨hb', ops[j], ho, fun e he hb2 => ?_⟩
        · rw [hr] at this; cases this
        · have hlt := hd3 j ops[j] (by rw [Array.getElem?_toList]; exact ho) e (by simpa using he) hb2
          exact ih e.on hlt (by omega)
  intro fuel
  induction fuel with
  | zero =>
    intro listed a w hc inv
    have hall : ∀ j, j < ops.size → listed.getD j false = true := fun j hj => by
      have := all_of_count listed.toList (by omega) j (by rw [Array.length_toList, inv.size]; exact hj)
      rw [Array.getElem?_toList] at this
      rw [Array.getD_eq_getD_getElem?, this]; rfl
    refine ⟨?_, done listed a w hall inv⟩
    refine List.eq_nil_iff_forall_not_mem.2 fun i hi => ?_
    obtain ⟨h1, o, ho, _⟩ := mem_ready.1 hi
    have hil : i < ops.size := (Array.getElem?_eq_some_iff.1 ho).1
    have h2 := hall i hil
    have hil' : i < listed.size := by rw [inv.size]; exact hil
    rw [Array.getD_eq_getD_getElem?, Array.getElem?_eq_getElem hil'] at h1 h2
    rw [Option.getD_some] at h1 h2
    rw [h1] at h2; cases h2
  | succ fuel ih =>
    intro listed a w hc inv
    refine ⟨fun hr => done listed a w (none_ready listed inv.size hr) inv, fun i hi => ?_⟩
    obtain ⟨h1, o, ho, hdep⟩ := mem_ready.1 hi
    have hil : i < ops.size := (Array.getElem?_eq_some_iff.1 ho).1
    have hil' : i < listed.size := by rw [inv.size]; exact hil
    have hol : ops.toList[i]? = some o := by rw [Array.getElem?_toList]; exact ho
    have hst := FlatAllE.at_ _ _ _ _ step hol
    rw [Nat.zero_add] at hst
    have hstep := hst a w inv.cls inv.agree fun j hj => by
      obtain ⟨e, he, rfl⟩ := List.mem_map.1 hj
      obtain ⟨he, hb⟩ := List.mem_filter.1 he
      exact inv.vals e.on (hdep e (by simpa using he) hb)
    have hlf : listed.toList[i]? = some false := by
      rw [Array.getElem?_toList, Array.getElem?_eq_getElem hil']
      rw [Array.getD_eq_getD_getElem?, Array.getElem?_eq_getElem hil', Option.getD_some] at h1
      rw [h1]
    have hcnt : (listed.setIfInBounds i true).toList.count false ≤ fuel := by
      rw [Array.toList_setIfInBounds]
      have := count_set_true listed.toList i hlf
      omega
    have next : ∀ v w', E w w' → V i v w' → wpAnyIn F n P .any ops Q fuel (listed.setIfInBounds i true) (a.put o.dst v) w' := by
      intro v w' hb hv
      have old : ∀ j, j ≠ i → (listed.setIfInBounds i true).getD j false = true → listed.getD j false = true := by
        intro j hji hj
        rw [Array.getD_eq_getD_getElem?, Array.getElem?_setIfInBounds, if_neg (fun e => hji e.symm)] at hj
        rw [Array.getD_eq_getD_getElem?]; exact hj
      cases hto : o.dst with
      | none =>
        refine ih _ _ _ hcnt ⟨hC _ _ inv.cls hb, inv.agree, by rw [Array.size_setIfInBounds]; exact inv.size, fun j hj => ?_⟩
        by_cases hji : j = i
        · subst hji
          have : slotOf ops a j = undef := by unfold slotOf; rw [ho, Option.bind_some, hto]
          show V j (slotOf ops a j) w'
          rw [this]; exact hN j o ho hto v w' hv
        · exact hV _ _ _ _ (inv.vals j (old j hji hj)) hb
      | some t =>
        have htl := hd1 i o t hol hto
        refine ih _ _ _ hcnt ⟨hC _ _ inv.cls hb, ?_, by rw [Array.size_setIfInBounds]; exact inv.size, fun j hj => ?_⟩
        · refine ⟨inv.agree.1, by rw [put_tmps, Array.size_setIfInBounds]; exact inv.agree.2.1, fun t' ht' => ?_⟩
          rw [put_tmps, Array.getElem?_setIfInBounds, if_neg ?_]
          · exact inv.agree.2.2 t' ht'
          · intro e
            exact ht' o (List.mem_of_getElem? hol) (by rw [hto, e])
        · by_cases hji : j = i
          · subst hji
            have : slotOf ops (a.put (some t) v) j = v := by
              unfold slotOf
              rw [ho, Option.bind_some, hto]
              show (a.put (some t) v).tmps.getD t undef = v
              rw [put_tmps, Array.getD_eq_getD_getElem?, Array.getElem?_setIfInBounds, if_pos rfl, if_pos (by rw [inv.agree.2.1]; exact htl)]; rfl
            rw [this]; exact hv
          · have hj' := old j hji hj
            have hjl : j < ops.size := by
              rw [← inv.size]
              refine Nat.lt_of_not_le fun hle => ?_
              rw [Array.getD_eq_getD_getElem?, Array.getElem?_eq_none hle] at hj'
              cases hj'
            have hoj : ops[j]? = some ops[j] := Array.getElem?_eq_getElem hjl
            have : slotOf ops (a.put (some t) v) j = slotOf ops a j := by
              unfold slotOf
              rw [hoj, Option.bind_some]
              cases hdj : ops[j].dst with
              | none => rfl
              | some t2 =>
                show (a.put (some t) v).tmps.getD t2 undef = a.tmps.getD t2 undef
                rw [put_tmps, Array.getD_eq_getD_getElem?, Array.getElem?_setIfInBounds, if_neg ?_, ← Array.getD_eq_getD_getElem?]
                intro e
                exact hji (hd2 j i ops[j] o t2 (by rw [Array.getElem?_toList]; exact hoj) hol hdj (by rw [hto, e]))
            rw [this]
            exact hV _ _ _ _ (inv.vals j hj') hb
    unfold wpOpIn
    simp only [ho]
    split
    · next hw =>
      rw [if_pos hw] at hstep
      unfold Oper.wpIn
      refine ⟨fun f _ => hF1 f, ?_⟩
      have hsem : o.semAt F.round a.eval = execOp a.eval o := by
        cases hr : F.round with
        | none => rw [Oper.semAt_none]
        | some l => exact Oper.semAt_some l _ o (hd4 i o hol)
      rw [hsem]
      generalize (execOp a.eval o).run P w = res at hstep
      cases res with
      | ok x w' =>
        cases x with
        | value u => exact next u w' hstep.1 hstep.2
        | enter f args =>
          refine ⟨(fun h => by rw [hF2] at h; cases h), hF3 _ _ _ _ _ (Calls.mono hstep ?_)⟩
          rintro e w'' ⟨v, rfl, hb, hv⟩
          exact next v w'' hb hv
        | skip =>
          exact next undef w' hstep.1 hstep.2
        | _ => exact hstep.elim
      | halt x w' => exact hstep.elim
    · next hw =>
      rw [if_neg hw] at hstep
      exact ⟨fun f _ => hF1 f, next undef w (hE _) hstep⟩
theorem wp_region_flatE {E : World → World → Prop} (hE : ∀ w, E w w) {id : Nat} {l : List Oper} {a0 : Act} {w : World} (hm : P.follows .mixedOrders = true) (C : World → Prop) (hC : ∀ w w', C w → E w w' → C w') (V : Nat → Value → World → Prop) (hV : ∀ i v w w', V i v w → E w w' → V i v w') (hN : ∀ (i : Nat) o, l[i]? = some o → o.dst = none → ∀ v w, V i v w → V i undef w) (hB : flatBE l a0.tmps.size = true) (h0 : C w.drew)
    (step : FlatAllE P E l.toArray C V a0 l 0) (fin : ∀ vs w, C w → (∀ j, j < l.length → V j (vs j) w) → Q .normal (putAll vs l 0 a0) w) : (Code.region id l.toArray true).wp P Q a0 w :=
  (wpIn_wide (n := 6)).1 (wpIn_region_any hm (wpAnyIn_flatE hE (fun _ => trivial) rfl (fun m _ _ _ _ h => callsIn_wide.2 h) C hC V hV (by simpa using hN) a0 hB (by simpa using step) (by simpa using fin) _ _ _ _ (by simp)
    ⟨h0, ⟨rfl, rfl, fun _ _ => rfl⟩, by simp, fun j hj => by
      rw [Array.getD_eq_getD_getElem?, Array.getElem?_replicate] at hj
      split at hj <;> cases hj⟩))
theorem flatE_go {E : World → World → Prop} {o : Oper} {a : Act} {w : World} {V : Value → World → Prop} {j : Nat} {b : Bool} {t : Tmp} (hg : o.guard = some (j, b)) (ht : (ops[j]?).bind (·.dst) = some t) (he : a.eval (.tmp t) = .bool b) (h : FlatUponE P E V w ((execOp a.eval o).run P w)) :
    if Region.wanted o (yielded ops a.tmps) then FlatUponE P E V w ((execOp a.eval o).run P w) else V undef w := by
  have hy : yielded ops a.tmps j = some b := by
    unfold yielded
    rw [ht, Option.bind_some]
    have he' : a.tmps.getD t undef = .bool b := he
    rw [Array.getD_eq_getD_getElem?] at he'
    cases hx : a.tmps[t]? with
    | none => rw [hx] at he'; cases he'
    | some v => rw [hx] at he'; have h2 : v = .bool b := he'; rw [h2]
  have hw : Region.wanted o (yielded ops a.tmps) = true := by
    unfold Region.wanted
    rw [hg]
    show (yielded ops a.tmps j == some b) = true
    rw [hy]; simp
  rw [if_pos hw]; exact h
theorem flatE_not {E : World → World → Prop} {o : Oper} {a : Act} {w : World} {V : Value → World → Prop} {j : Nat} {b : Bool} {t : Tmp} (hg : o.guard = some (j, b)) (ht : (ops[j]?).bind (·.dst) = some t) (he : a.eval (.tmp t) = .bool (!b)) (h : V undef w) :
    if Region.wanted o (yielded ops a.tmps) then FlatUponE P E V w ((execOp a.eval o).run P w) else V undef w := by
  have hy : yielded ops a.tmps j = some (!b) := by
    unfold yielded
    rw [ht, Option.bind_some]
    have he' : a.tmps.getD t undef = .bool (!b) := he
    rw [Array.getD_eq_getD_getElem?] at he'
    cases hx : a.tmps[t]? with
    | none => rw [hx] at he'; cases he'
    | some v => rw [hx] at he'; have h2 : v = .bool (!b) := he'; rw [h2]
  have hw : Region.wanted o (yielded ops a.tmps) = false := by
    unfold Region.wanted
    rw [hg]
    show (yielded ops a.tmps j == some b) = false
    rw [hy]; cases b <;> rfl
  rw [hw]; exact h
theorem flatE_on {E : World → World → Prop} {o : Oper} {a : Act} {w : World} {V : Value → World → Prop} (hg : o.guard = none) (h : FlatUponE P E V w ((execOp a.eval o).run P w)) :
    if Region.wanted o (yielded ops a.tmps) then FlatUponE P E V w ((execOp a.eval o).run P w) else V undef w := by
  have hw : Region.wanted o (yielded ops a.tmps) = true := by unfold Region.wanted; rw [hg]
  rw [if_pos hw]; exact h
end
end Go.Proofs.YtdilmfakkppgpaaGreatDoor
