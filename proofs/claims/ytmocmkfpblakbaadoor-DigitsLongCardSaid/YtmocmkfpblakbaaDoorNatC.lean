/- The walk of the words' Mul. Condition: the arguments lie as slices of words, not too long. -/
import Derived.Test.YtmocmkfpblakbaaDoorNatB
namespace Go.Proofs.YtmocmkfpblakbaaDoor
open Go.RowKit WordsM

theorem outer_step {B : Nat} {A K : List Nat} {i x S : Nat} (hx : A[i]? = some x) (h : S = val B (A.take i) * val B K + x * B ^ i * val B K) : S = val B (A.take (i + 1)) * val B K := by
  rw [val_take_snoc A i x hx, h, Nat.add_mul, Nat.mul_comm x]
theorem inner_step {B V : Nat} {K : List Nat} {i j x y : Nat} (hy : K[j]? = some y) : V + x * B ^ i * val B (K.take j) + x * y * B ^ (i + j) = V + x * B ^ i * val B (K.take (j + 1)) := by
  rw [val_take_snoc K j y hy, Nat.mul_add, Nat.pow_add, Nat.add_assoc]
  congr 2
  rw [Nat.mul_assoc x (B ^ i), ← Nat.mul_assoc (B ^ i) (B ^ j) y, Nat.mul_comm (B ^ i * B ^ j) y]
  simp only [Nat.mul_assoc]
set_option maxRecDepth 100000 in
set_option maxHeartbeats 2000000 in
theorem natmul_any (a : Option Addr) (n c : Nat) (ls : List Nat) (b : Option Addr) (m d : Nat) (ks : List Nat) (w : World) (h1 : WordsIn w a n c ls) (h2 : WordsIn w b m d ks) (hn : n ≤ 100000) (hm : m ≤ 100000) :
    Calls Tryd.prog 33 #[.slice a n c, .slice b m d] w (NumOut w (val (2 ^ 64) ls * val (2 ^ 64) ks)) := by
  have hl1 := h1.len
  have hl2 := h2.len
  have H1 := Lib.hid h1
  have H2 := Lib.hid h2
  have ht1 := trim_len ls
  have ht2 := trim_len ks
  have hv1 : val (2 ^ 64) (trimL ls) = val (2 ^ 64) ls := val_trim ls
  have hv2 : val (2 ^ 64) (trimL ks) = val (2 ^ 64) ks := val_trim ks
  have hc1 := fun W (hb : Below w.heap.size w W) => cut_any a n c ls W (h1.step hb)
  have hc2 := fun W (hb : Below w.heap.size w W) => cut_any b m d ks W (h2.step hb)
  obtain ⟨A, hA⟩ : ∃ A, trimL ls = A := ⟨_, rfl⟩
  obtain ⟨K, hK⟩ : ∃ K, trimL ks = K := ⟨_, rfl⟩
  have hw1 := fun W (hb : Below w.heap.size w W) => (h1.step hb).trim
  have hw2 := fun W (hb : Below w.heap.size w W) => (h2.step hb).trim
  rw [hA] at ht1 hv1 hc1 hw1
  rw [hK] at ht2 hv2 hc2 hw2
  rw [← hv1, ← hv2]
  have HC := Lib.hid (And.intro hc1 hc2)
  have HW := Lib.hid (And.intro hw1 hw2)
  clear hA hK hv1 hv2 hc1 hc2 hw1 hw2 h1 h2 H1 H2
  by_cases h0 : A.length = 0 ∨ K.length = 0
  · have hz : val (2 ^ 64) A * val (2 ^ 64) K = 0 := by
      rcases h0 with h0 | h0
      · rw [List.length_eq_zero_iff.1 h0]; simp [val]
      · rw [List.length_eq_zero_iff.1 h0]; simp [val]
    have HZ := Lib.hid hz
    rw [hz]
    clear hz
    by_cases hA0 : A.length = 0
    · have hA0' : ((A.length : Int) == 0) = true := by simp [hA0]
      go_enter Tryd.func33, Tryd.ntmps33
      go_wp2_with (first
        | (go_at_call_of 36 a; refine (HC.out.1 _ (Below.refl _ _)).mono ?_; rintro e w1 ⟨rfl, hb1⟩; have HB1 := Lib.hid hb1; clear hb1)
        | (go_at_call_of 36 b; refine (HC.out.2 _ HB1.out).mono ?_; rintro e w2 ⟨rfl, hb2⟩; have HB2 := Lib.hid (Below.next0 HB1.out hb2); clear hb2))
      go_ret
      exact ⟨none, 0, 0, rfl, ⟨rfl, Nat.le_refl _, Nat.zero_le _, fun x hx => by simp [dig_zero] at hx, .inl rfl⟩, HB2.out⟩
    · have hK0 : K.length = 0 := by omega
      have hA0' : ((A.length : Int) == 0) = false := by rw [beq_eq_false_iff_ne]; omega
      have hK0' : ((K.length : Int) == 0) = true := by simp [hK0]
      go_enter Tryd.func33, Tryd.ntmps33
      go_wp2_with (first
        | (go_at_call_of 36 a; refine (HC.out.1 _ (Below.refl _ _)).mono ?_; rintro e w1 ⟨rfl, hb1⟩; have HB1 := Lib.hid hb1; clear hb1)
        | (go_at_call_of 36 b; refine (HC.out.2 _ HB1.out).mono ?_; rintro e w2 ⟨rfl, hb2⟩; have HB2 := Lib.hid (Below.next0 HB1.out hb2); clear hb2))
      go_ret
      exact ⟨none, 0, 0, rfl, ⟨rfl, Nat.le_refl _, Nat.zero_le _, fun x hx => by simp [dig_zero] at hx, .inl rfl⟩, HB2.out⟩
  have hA0' : ((A.length : Int) == 0) = false := by rw [beq_eq_false_iff_ne]; omega
  have hK0' : ((K.length : Int) == 0) = false := by rw [beq_eq_false_iff_ne]; omega
  have hmk := run_make_row' (P := Tryd.prog) 26 41 (.int .u64 0) 8 Tryd.underlying26 info_u64 rfl .i64 .i64 (A.length + K.length) (by omega) (by omega)
  rw [show ((A.length + K.length : Nat) : Int) = (A.length : Int) + (K.length : Int) by omega, made_zeros'] at hmk
  go_enter Tryd.func33, Tryd.ntmps33
  go_wp2_with (first
    | (go_at_call_of 36 a; refine (HC.out.1 _ (Below.refl _ _)).mono ?_; rintro e w1 ⟨rfl, hb1⟩; have HB1 := Lib.hid hb1; clear hb1)
    | (go_at_call_of 36 b; refine (HC.out.2 _ HB1.out).mono ?_; rintro e wc ⟨rfl, hb2⟩; have HB2 := Lib.hid (Below.next0 HB1.out hb2); clear hb2))
  have hB0 : Below wc.heap.size wc (wc.alloc (.cells (Array.replicate (A.length + K.length) (nv .u64 0)) 41)) := (Below.refl _ _).alloc (Nat.le_refl _) _
  have hA0 := Arr.zeros wc 41 .u64 (A.length + K.length)
  have HWA := Lib.hid (And.intro (HW.out.1 wc HB2.out) (HW.out.2 wc HB2.out))
  have H0 := Lib.hid (And.intro hB0 hA0)
  clear hB0 hA0 hmk h0 HW HC
  go_loopw [34] (fun iv wr => ∃ (i : Nat) (L : List Nat), iv = .int .i64 (i : Int) ∧ i ≤ A.length ∧ Arr 41 .u64 wr wc.heap.size L ∧ L.length = A.length + K.length ∧ Low (2 ^ 64) L ∧ val (2 ^ 64) L = val (2 ^ 64) (A.take i) * val (2 ^ 64) K ∧ (∀ t, i + K.length ≤ t → t < A.length + K.length → L[t]? = some 0) ∧ Below wc.heap.size wc wr) (fun iv _ => A.length - (intOf iv).toNat)
  case atStart =>
    refine ⟨0, List.replicate (A.length + K.length) 0, rfl, Nat.zero_le _, H0.out.2, by simp, fun x hx => ?_, by rw [val_zeros]; simp [val], fun t _ ht => ?_, H0.out.1⟩
    · rw [List.eq_of_mem_replicate hx]; decide
    · rw [List.getElem?_replicate]; simp [ht]
  case round =>
    obtain ⟨i, L, rfl, hi, hL, hLl, hLow, hval, hzer, hbw⟩ := hrel
    by_cases hlt : i < A.length
    · have hlt' : (i : Int) < (A.length : Int) := by omega
      obtain ⟨x, hx⟩ : ∃ x, A[i]? = some x := ⟨_, List.getElem?_eq_getElem hlt⟩
      obtain ⟨ba, oa, hae, hba, hcx⟩ := (HWA.out.1.rd.below hbw).at_ hx
      have hxl : x < 18446744073709551616 := HWA.out.1.low x (List.mem_of_getElem? hx)
      subst hae
      have HH := Lib.hid (And.intro hL (And.intro hLow (And.intro hval (And.intro hbw (And.intro hx hzer)))))
      clear hL hLow hval hbw hzer hx
      go_wp2_with fail
      go_loopw [8, 41] (fun cv jv wr => ∃ (j cr : Nat) (L : List Nat), cv = .int .u64 (cr : Int) ∧ jv = .int .i64 (j : Int) ∧ j ≤ K.length ∧ cr < 18446744073709551616 ∧ Arr 41 .u64 wr wc.heap.size L ∧ L.length = A.length + K.length ∧ Low (2 ^ 64) L ∧ val (2 ^ 64) L + cr * (2 ^ 64) ^ (i + j) = val (2 ^ 64) (A.take i) * val (2 ^ 64) K + x * (2 ^ 64) ^ i * val (2 ^ 64) (K.take j) ∧ (∀ t, i + K.length ≤ t → t < A.length + K.length → L[t]? = some 0) ∧ Below wc.heap.size wc wr) (fun _ jv _ => K.length - (intOf jv).toNat)
      case atStart => exact ⟨0, 0, L, rfl, rfl, Nat.zero_le _, by decide, HH.out.1, hLl, HH.out.2.1, by rw [HH.out.2.2.1]; simp [val], HH.out.2.2.2.2.2, HH.out.2.2.2.1⟩
      case round =>
        have HX := Lib.hid HH.out.2.2.2.2.1
        clear hLl HH
        obtain ⟨j, cr, L, rfl, rfl, hj, hcr, hL, hLl, hLow, hval, hzer, hbw⟩ := hrel
        by_cases hlj : j < K.length
        · have hlj' : (j : Int) < (K.length : Int) := by omega
          obtain ⟨y, hy⟩ : ∃ y, K[j]? = some y := ⟨_, List.getElem?_eq_getElem hlj⟩
          obtain ⟨z, hz⟩ : ∃ z, L[i + j]? = some z := ⟨_, List.getElem?_eq_getElem (by omega)⟩
          obtain ⟨bb, ob, hbe, hbb, hcy⟩ := (HWA.out.2.rd.below hbw).at_ hy
          have hyl : y < 18446744073709551616 := HWA.out.2.low y (List.mem_of_getElem? hy)
          have hzl : z < 18446744073709551616 := hLow z (List.mem_of_getElem? hz)
          subst hbe
          have hms := mul_step (B := 18446744073709551616) (by decide) hxl hyl hzl hcr
          have hst := add_step (B := 2 ^ 64) (b := x * y) (c := cr) hz hval
          rw [inner_step hy] at hst
          rw [show (z + x * y + cr) % 2 ^ 64 = ((x * y % 18446744073709551616 + z) % 18446744073709551616 + cr) % 18446744073709551616 from hms.1.symm, show (z + x * y + cr) / 2 ^ 64 = x * y / 18446744073709551616 + (x * y % 18446744073709551616 + z) / 18446744073709551616 + ((x * y % 18446744073709551616 + z) % 18446744073709551616 + cr) / 18446744073709551616 from hms.2.1.symm] at hst
          have hml := hms.2.2
          rw [← hms.2.1] at hml
          have hmul := fun W => Tryd.bits_Mul64 x y hxl hyl W
          have hlol : x * y % 18446744073709551616 < 18446744073709551616 := Nat.mod_lt _ (by decide)
          generalize x * y % 18446744073709551616 = lo at *
          generalize x * y / 18446744073709551616 = hi at *
          have hadd1 : ∀ W, (callFunc 50 #[.int .u64 (lo : Int), .int .u64 (z : Int), .int .u64 0]).run Tryd.prog W = .ok (.value (.tuple #[.int .u64 (((lo + z) % 18446744073709551616 : Nat) : Int), .int .u64 (((lo + z) / 18446744073709551616 : Nat) : Int)])) W := fun W => add64_run lo z 0 hlol hzl (by decide) W
          have hl1 : (lo + z) % 18446744073709551616 < 18446744073709551616 := Nat.mod_lt _ (by decide)
          generalize (lo + z) % 18446744073709551616 = lo1 at *
          generalize (lo + z) / 18446744073709551616 = m1 at *
          have hadd2 : ∀ W, (callFunc 50 #[.int .u64 (lo1 : Int), .int .u64 (cr : Int), .int .u64 0]).run Tryd.prog W = .ok (.value (.tuple #[.int .u64 (((lo1 + cr) % 18446744073709551616 : Nat) : Int), .int .u64 (((lo1 + cr) / 18446744073709551616 : Nat) : Int)])) W := fun W => add64_run lo1 cr 0 hl1 hcr (by decide) W
          have hl2 : (lo1 + cr) % 18446744073709551616 < 18446744073709551616 := Nat.mod_lt _ (by decide)
          generalize (lo1 + cr) % 18446744073709551616 = lo2 at *
          generalize (lo1 + cr) / 18446744073709551616 = m2 at *
          have hzc : wr.cell? ⟨wc.heap.size, i + j, none⟩ = some (.int .u64 (z : Int)) := hL.cell hz
          have hzf : wr.frozen? ⟨wc.heap.size, i + j, none⟩ = false := hL.frozen _
          have hij : (i : Int) + (j : Int) < (A.length : Int) + (K.length : Int) := by omega
          have HM := Lib.hid hmul
          have HH := Lib.hid (And.intro hst (And.intro hL (And.intro hLow (And.intro hbw hzer))))
          clear hmul hst hL hLow hval hbw hzer hms hy hz
          go_wp2_with (refine (HM.out _).mono ?_; rintro e w5 ⟨rfl, rfl⟩)
          refine ⟨⟨j + 1, hi + m1 + m2, L.set (i + j) lo2, by simp, by simp, by omega, hml, HH.out.2.1.set (i + j) lo2, by simp [hLl], low_set HH.out.2.2.1 hl2, HH.out.1, fun t ht1 ht2 => ?_, HH.out.2.2.2.1.setCell (p := ⟨wc.heap.size, i + j, none⟩) (Nat.le_refl _) _⟩, by simp only [intOf]; omega⟩
          rw [List.getElem?_set_ne (by omega)]
          exact HH.out.2.2.2.2 t ht1 ht2
        · obtain rfl : j = K.length := by omega
          have hlj' : ¬ ((K.length : Int) < (K.length : Int)) := by omega
          have hz0 := hzer (i + K.length) (Nat.le_refl _) (by omega)
          have hzc : wr.cell? ⟨wc.heap.size, i + K.length, none⟩ = some (.int .u64 0) := hL.cell hz0
          have hzf : wr.frozen? ⟨wc.heap.size, i + K.length, none⟩ = false := hL.frozen _
          have hij : (i : Int) + (K.length : Int) < (A.length : Int) + (K.length : Int) := by omega
          have hvs := val_set (B := 2 ^ 64) L (i + K.length) cr 0 hz0
          rw [Nat.zero_mul, Nat.add_zero, hval, List.take_length] at hvs
          have hvo := outer_step HX.out hvs
          have HH := Lib.hid (And.intro hvo (And.intro hL (And.intro hLow (And.intro hbw hzer))))
          clear hvs hvo hval hL hLow hbw hzer hz0
          go_wp2_with fail
          refine ⟨⟨i + 1, L.set (i + K.length) cr, by simp, by omega, HH.out.2.1.set _ cr, by simp [hLl], low_set HH.out.2.2.1 hcr, HH.out.1, fun t ht1 ht2 => ?_, HH.out.2.2.2.1.setCell (p := ⟨wc.heap.size, i + K.length, none⟩) (Nat.le_refl _) _⟩, by simp only [intOf]; omega⟩
          rw [List.getElem?_set_ne (by omega)]
          exact HH.out.2.2.2.2 t (by omega) ht2
    · obtain rfl : i = A.length := by omega
      have hlt' : ¬ ((A.length : Int) < (A.length : Int)) := by omega
      rw [List.take_length] at hval
      have hW : WordsIn wr (some ⟨wc.heap.size, 0, none⟩) (A.length + K.length) (A.length + K.length) L := ⟨hLl, Nat.le_refl _, by omega, hLow, hL.rd⟩
      have hbq : Below w.heap.size w wr := Below.next0 HB2.out hbw
      have hdig : trimL L = dig (2 ^ 64) (val (2 ^ 64) A * val (2 ^ 64) K) := by rw [trim_dig (by decide) hLow, hval]
      have HE := Lib.hid (And.intro hW (And.intro hbq hdig))
      clear hW hbq hdig hval hL hLow hzer hbw
      go_wp2_with (refine (cut_any _ _ _ _ _ HE.out.1).mono ?_; rintro e w5 ⟨rfl, hb5⟩; have HB5 := Lib.hid hb5; clear hb5)
      go_ret
      have hout := (HE.out.1.step HB5.out).trim
      rw [HE.out.2.2] at hout ⊢
      exact ⟨_, _, _, rfl, hout, Below.next0 HE.out.2.1 HB5.out⟩
end Go.Proofs.YtmocmkfpblakbaaDoor
