/- The walk of the words' Down. Condition: the argument lies as a slice of words, not too long. -/
import Derived.Test.YtmocmkfpblakbaaDoorNatB
import Derived.Test.YtmocmkfpblakbaaDoorWordsM2
namespace Go.Proofs.YtmocmkfpblakbaaDoor
open Go.RowKit WordsM

theorem Arr.drew {T : TypeId} {K : IntKind} {w : World} {g : Nat} {ls : List Nat} (h : Arr T K w g ls) : Arr T K w.drew g ls := h
set_option maxRecDepth 100000 in
set_option maxHeartbeats 2000000 in
theorem natdown_any (a : Option Addr) (n c : Nat) (ls : List Nat) (z : Nat) (w : World) (h : WordsIn w a n c ls) (hn : n ≤ 100000) (hz : z ≤ 100000000) :
    Calls Tryd.prog 25 #[.slice a n c, .int .i64 (z : Int)] w (NumOut w (val (2 ^ 64) ls / 2 ^ z)) := by
  have hc := cut_any a n c ls w h
  have hT := fun W (hb : Below w.heap.size w W) => (h.step hb).trim
  have hv : val (2 ^ 64) (trimL ls) = val (2 ^ 64) ls := val_trim ls
  have hln := h.len
  have htl := trim_len ls
  obtain ⟨A, hA⟩ : ∃ A, trimL ls = A := ⟨_, rfl⟩
  rw [hA] at hc hT hv htl
  rw [← hv]
  obtain ⟨k, hk⟩ : ∃ k, z / 64 = k := ⟨_, rfl⟩
  obtain ⟨s, hs⟩ : ∃ s, z % 64 = s := ⟨_, rfl⟩
  have hs64 : s < 64 := by omega
  have hzz : z = 64 * k + s := by omega
  have hkI : (z : Int).tdiv 64 = (k : Int) := by rw [Int.tdiv_eq_ediv_of_nonneg (by omega)]; omega
  have hsI : (z : Int).tmod 64 = (s : Int) := by rw [Int.tmod_eq_emod_of_nonneg (by omega)]; omega
  have hkI2 : (z : Int) / 64 = (k : Int) := by omega
  have hsI2 : (z : Int) % 64 = (s : Int) := by omega
  have HA := Lib.hid (hT w (Below.refl _ _)).low
  have HC := Lib.hid (And.intro hc hT)
  have HZ := Lib.hid hzz
  clear hc hT hA hv h hk hs hzz
  by_cases hkn : A.length ≤ k
  · have hkn' : (A.length : Int) ≤ (k : Int) := by omega
    have hd0 := down_nil (s := s) HA.out hkn
    rw [← HZ.out] at hd0
    rw [hd0]
    clear hd0
    go_enter Tryd.func25, Tryd.ntmps25
    go_wp2_with (refine HC.out.1.mono ?_; rintro e w1 ⟨rfl, hb1⟩; have HB1 := Lib.hid hb1; clear hb1)
    go_ret
    exact ⟨none, 0, 0, rfl, ⟨rfl, Nat.le_refl _, Nat.zero_le _, fun x hx => by simp [dig_zero] at hx, .inl rfl⟩, HB1.out⟩
  · obtain ⟨m, hm⟩ : ∃ m, A.length = k + m := ⟨A.length - k, by omega⟩
    have hkn' : ¬ ((A.length : Int) ≤ (k : Int)) := by omega
    have hmI : (A.length : Int) - (k : Int) = (m : Int) := by omega
    have hmk := run_make_row' (P := Tryd.prog) 26 41 (.int .u64 0) 8 Tryd.underlying26 info_u64 rfl .i64 .i64 m (by omega) (by omega)
    rw [made_zeros'] at hmk
    have HM := Lib.hid hm
    clear hm
    go_enter Tryd.func25, Tryd.ntmps25
    go_wp2_with (refine HC.out.1.mono ?_; rintro e w1 ⟨rfl, hb1⟩; have HB1 := Lib.hid hb1; clear hb1)
    have hB0 : Below w1.heap.size w1 (w1.alloc (.cells (Array.replicate m (nv .u64 0)) 41)) := (Below.refl _ _).alloc (Nat.le_refl _) _
    have hA0 := Arr.zeros w1 41 .u64 m
    have HW := Lib.hid (HC.out.2 w1 HB1.out)
    have H0 := Lib.hid (And.intro hB0 hA0)
    clear hB0 hA0 hmk HC
    go_loopw [26] (fun iv wr => ∃ (i : Nat) (L : List Nat), iv = .int .i64 (i : Int) ∧ i ≤ m ∧ Arr 41 .u64 wr w1.heap.size L ∧ L.length = m ∧ (∀ j, j < i → L[j]? = (shr s (64 - s) (A.drop k))[j]?) ∧ Below w1.heap.size w1 wr) (fun iv _ => m - (intOf iv).toNat)
    case atStart => exact ⟨0, List.replicate m 0, rfl, Nat.zero_le _, H0.out.2, by simp, fun j hj => absurd hj (Nat.not_lt_zero _), H0.out.1⟩
    case round =>
      obtain ⟨i, L, rfl, hi, hL, hLl, hpre, hbw⟩ := hrel
      by_cases hlt : i < m
      · have hlt' : (i : Int) < (m : Int) := by omega
        obtain ⟨x, hx⟩ : ∃ x, A[i + k]? = some x := ⟨_, List.getElem?_eq_getElem (by have := HM.out; omega)⟩
        have hxl : x < 18446744073709551616 := HA.out x (List.mem_of_getElem? hx)
        obtain ⟨ba, oa, hae, hba, hcx⟩ := (HW.out.rd.below hbw).at_ hx
        subst hae
        have hr := shr_get s (64 - s) (A.drop k) i x (by rw [List.getElem?_drop, Nat.add_comm]; exact hx)
        rw [List.getElem?_drop, show s + (64 - s) = 64 by omega] at hr
        obtain ⟨p, hp⟩ : ∃ p, x / 2 ^ s = p := ⟨_, rfl⟩
        have hpI : (x : Int) / 2 ^ s = (p : Int) := by rw [← hp]; norm_cast
        have hpl : p < 18446744073709551616 := by rw [← hp]; exact Nat.lt_of_le_of_lt (Nat.div_le_self _ _) hxl
        obtain ⟨q, hq⟩ : ∃ q, L[i]? = some q := ⟨_, List.getElem?_eq_getElem (by omega)⟩
        have hzc : wr.cell? ⟨w1.heap.size, i, none⟩ = some (.int .u64 (q : Int)) := hL.cell hq
        have hzf : wr.frozen? ⟨w1.heap.size, i, none⟩ = false := hL.frozen _
        obtain ⟨t, ht⟩ : ∃ t, 64 - s = t := ⟨_, rfl⟩
        have htI : (64 : Int) - (s : Int) = (t : Int) := by omega
        have HH := Lib.hid (And.intro hr (And.intro hp (And.intro hL (And.intro hpre hbw))))
        clear hr hp hL hpre hbw hx hq
        by_cases hik : i + k + 1 < A.length
        · have hik' : (i : Int) + (k : Int) + 1 < (A.length : Int) := by omega
          obtain ⟨y, hy⟩ : ∃ y, A[i + k + 1]? = some y := ⟨_, List.getElem?_eq_getElem hik⟩
          have hcy := (HW.out.rd.below HH.out.2.2.2.2).at_ hy
          obtain ⟨bb, ob, hbe, hbb, hcy⟩ := hcy
          injection hbe with hbe; injection hbe with hb1 hb2; subst hb1 hb2
          have hyl : y < 18446744073709551616 := HA.out y (List.mem_of_getElem? hy)
          have HY := Lib.hid hy
          clear hy
          go_wp2_with fail
          have hL2 := HH.out.2.2.1.set i p
          have hb2 := HH.out.2.2.2.2.setCell (p := ⟨w1.heap.size, i, none⟩) (Nat.le_refl _) (.int .u64 (p : Int))
          have hcy2 : (wr.setCell ⟨w1.heap.size, i, none⟩ (.int .u64 (p : Int))).cell? ⟨ba, oa + (i + k + 1), none⟩ = some (.int .u64 (y : Int)) := (World.cell?_of_block (Below.heap_setCell _ _ _ _ (show ba ≠ w1.heap.size by omega))).trans hcy
          have hcp2 : (wr.setCell ⟨w1.heap.size, i, none⟩ (.int .u64 (p : Int))).cell? ⟨w1.heap.size, i, none⟩ = some (.int .u64 (p : Int)) := hL2.cell (by rw [List.getElem?_set_self (by omega)])
          have hf2 : (wr.setCell ⟨w1.heap.size, i, none⟩ (.int .u64 (p : Int))).frozen? ⟨w1.heap.size, i, none⟩ = false := hL2.frozen _
          generalize wr.setCell ⟨w1.heap.size, i, none⟩ (.int .u64 (p : Int)) = W2 at *
          obtain ⟨g, hg⟩ : ∃ g, y * 2 ^ t % 2 ^ 64 = g := ⟨_, rfl⟩
          have hgI : (y : Int) * 2 ^ t % 18446744073709551616 = (g : Int) := by rw [← hg, show (2 : Nat) ^ 64 = 18446744073709551616 from rfl, Int.natCast_emod, Int.natCast_mul, Int.natCast_pow]; rfl
          have hgl : g < 18446744073709551616 := by rw [← hg]; exact Nat.mod_lt _ (by decide)
          obtain ⟨r, hr⟩ : ∃ r, p + g = r := ⟨_, rfl⟩
          have hor : bits .or .u64 (p : Int) (g : Int) = (r : Int) := by
            rw [u64_or_nat p g hpl hgl, ← hr, ← HH.out.2.1, ← hg, ← ht]
            have := shr_or (s := s) (t := 64 - s) (x := x) (y := y) (by rw [show s + (64 - s) = 64 by omega]; exact hxl)
            rw [show s + (64 - s) = 64 by omega] at this
            rw [this]
          have HS := Lib.hid (And.intro hg (And.intro hr (And.intro hL2 hb2)))
          clear hg hr hL2 hb2
          go_region
          go_wp2_with fail
          have hr2 := HH.out.1
          rw [HH.out.2.1, show k + (i + 1) = i + k + 1 by omega, HY.out, ht, Option.getD_some, HS.out.1, HS.out.2.1] at hr2
          have hfin : bits .or .u64 (p : Int) (IntKind.u64.wrap ((y : Int) * 2 ^ t)) = (r : Int) := by rw [IntKind.wrap_u64, hgI, hor]
          rw [hfin]
          refine ⟨⟨i + 1, (L.set i p).set i r, by simp, by omega, (HS.out.2.2.1.set i r).drew, by simp [hLl], ?_, (HS.out.2.2.2.setCell (p := ⟨w1.heap.size, i, none⟩) (Nat.le_refl _) _).drew⟩, by simp only [intOf]; omega⟩
          rw [List.set_set]
          rw [← ht] at hr2
          exact same_step HH.out.2.2.2.1 hr2 (by omega)
        · have hik' : ¬ ((i : Int) + (k : Int) + 1 < (A.length : Int)) := by omega
          go_wp2_with fail
          have hr2 := HH.out.1
          rw [HH.out.2.1, show k + (i + 1) = i + k + 1 by omega, List.getElem?_eq_none (show A.length ≤ i + k + 1 by omega)] at hr2
          simp only [Option.getD_none, Nat.zero_mul, Nat.zero_mod, Nat.add_zero] at hr2
          exact ⟨⟨i + 1, L.set i p, by simp, by omega, HH.out.2.2.1.set i p, by simp [hLl], same_step HH.out.2.2.2.1 hr2 (by omega), HH.out.2.2.2.2.setCell (p := ⟨w1.heap.size, i, none⟩) (Nat.le_refl _) _⟩, by simp only [intOf]; omega⟩
      · obtain rfl : i = m := by omega
        have heq : L = shr s (64 - s) (A.drop k) := same_all (fun j hj => hpre j (by rw [shr_len, List.length_drop] at hj; have := HM.out; omega)) (by rw [shr_len, List.length_drop]; have := HM.out; omega)
        have hW : WordsIn wr (some ⟨w1.heap.size, 0, none⟩) i i L := ⟨hLl, Nat.le_refl _, by omega, heq ▸ down_low HA.out k s hs64, hL.rd⟩
        have hlt' : ¬ ((i : Int) < (i : Int)) := by omega
        have hbq : Below w.heap.size w wr := Below.next0 HB1.out hbw
        have hdig : trimL L = dig (2 ^ 64) (val (2 ^ 64) A / 2 ^ z) := by rw [trim_dig (by decide) hW.low, heq, down_val A HA.out k s (by omega) hs64, HZ.out]
        have HE := Lib.hid (And.intro hW (And.intro hbq hdig))
        clear hW hbq hdig heq hL hpre hbw
        go_wp2_with (refine (cut_any _ _ _ _ _ HE.out.1).mono ?_; rintro e w5 ⟨rfl, hb5⟩; have HB5 := Lib.hid hb5; clear hb5)
        go_ret
        have hout := (HE.out.1.step HB5.out).trim
        rw [HE.out.2.2] at hout ⊢
        exact ⟨_, _, _, rfl, hout, Below.next0 HE.out.2.1 HB5.out⟩
end Go.Proofs.YtmocmkfpblakbaaDoor
