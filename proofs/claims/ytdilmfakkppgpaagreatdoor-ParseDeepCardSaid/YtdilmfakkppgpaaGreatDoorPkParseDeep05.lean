/- Part 5 of the proof of LawParseDeep: NatF, Tz, NatG, NumC, RefI, DecM, DigA, RefL, Flat, RefM1, RefK, RefLeft. Condition: as each theorem says; none at the end. -/
import Derived.Shelf.Spec.TrailingZeros
import Derived.Ground.Names7Prog
import Derived.Test.YtdilmfakkppgpaaGreatDoorProg
import Derived.Lib.ItoaNum
import Derived.Sort.QuietTacIn
import Derived.RangeFuncCalls
import Derived.Below
import Derived.BigRegion
import Derived.Deep.RegionLaw
import Derived.BigQuiet
import Derived.Test.YtdilmfakkppgpaaGreatDoorPkParseDeep01
import Derived.Test.YtdilmfakkppgpaaGreatDoorPkParseDeep03
import Derived.Test.YtdilmfakkppgpaaGreatDoorPkParseDeep04
namespace Go.Proofs.YtdilmfakkppgpaaGreatDoor
open Go.RowKit WordsM
theorem Arr.drew {T : TypeId} {K : IntKind} {w : World} {g : Nat} {ls : List Nat} (h : Arr T K w g ls) : Arr T K w.drew g ls := h
set_option maxRecDepth 100000 in
set_option maxHeartbeats 2000000 in
theorem natdown_new (a : Option Addr) (n c : Nat) (ls : List Nat) (z : Nat) (w : World) (h : WordsIn w a n c ls) (hn : n ≤ 100000) (hz : z ≤ 100000000) :
    Calls Tryz.prog 91 #[.slice a n c, .int .i64 (z : Int)] w (NumNew w (val (2 ^ 64) ls / 2 ^ z)) := by
  have hc := cut_any a n c ls w h
  have hT := fun W (hb : Below w.heap.size w W) => (h.step hb).trim
  have hv : val (2 ^ 64) (trimL ls) = val (2 ^ 64) ls := val_trim ls
  have hln := h.len
  have htl := trim_len ls
  obtain ⟨A, hA⟩ : ∃ A, trimL ls = A := ⟨_, rfl⟩
  rw [hA] at hc hT hv htl
  rw [← hv]
  obtain ⟨k, hk⟩ : ∃ k, z / 64 = k := ⟨_, rfl⟩
  obtain ⟨s, hs⟩ : ∃ s, z % 64 = s := ⟨_, rfl⟩
  have hs64 : s < 64 := by omega
  have hzz : z = 64 * k + s := by omega
  have hkI : (z : Int).tdiv 64 = (k : Int) := by rw [Int.tdiv_eq_ediv_of_nonneg (by omega)]; omega
  have hsI : (z : Int).tmod 64 = (s : Int) := by rw [Int.tmod_eq_emod_of_nonneg (by omega)]; omega
  have hkI2 : (z : Int) / 64 = (k : Int) := by omega
  have hsI2 : (z : Int) % 64 = (s : Int) := by omega
  have HA := Lib.hid (hT w (Below.refl _ _)).low
  have HC := Lib.hid (And.intro hc hT)
  have HZ := Lib.hid hzz
  clear hc hT hA hv h hk hs hzz
  by_cases hkn : A.length ≤ k
  · have hkn' : (A.length : Int) ≤ (k : Int) := by omega
    have hd0 := down_nil (s := s) HA.out hkn
    rw [← HZ.out] at hd0
    rw [hd0]
    clear hd0
    go_enter Tryz.func91, Tryz.ntmps91
    go_wp2_with (refine HC.out.1.mono ?_; rintro e w1 ⟨rfl, hb1⟩; have HB1 := Lib.hid hb1; clear hb1)
    go_ret
    exact ⟨none, 0, 0, rfl, ⟨⟨rfl, Nat.le_refl _, Nat.zero_le _, fun x hx => by simp [dig_zero] at hx, .inl rfl⟩, .inr fun _ h => nomatch h⟩, HB1.out⟩
  · obtain ⟨m, hm⟩ : ∃ m, A.length = k + m := ⟨A.length - k, by omega⟩
    have hkn' : ¬ ((A.length : Int) ≤ (k : Int)) := by omega
    have hmI : (A.length : Int) - (k : Int) = (m : Int) := by omega
    have hmk := run_make_row' (P := Tryz.prog) 23 74 (.int .u64 0) 8 Tryz.underlying23 info_u64 rfl .i64 .i64 m (by omega) (by omega)
    rw [made_zeros'] at hmk
    have HM := Lib.hid hm
    clear hm
    go_enter Tryz.func91, Tryz.ntmps91
    go_wp2_with (refine HC.out.1.mono ?_; rintro e w1 ⟨rfl, hb1⟩; have HB1 := Lib.hid hb1; clear hb1)
    have hB0 : Below w1.heap.size w1 (w1.alloc (.cells (Array.replicate m (nv .u64 0)) 74)) := (Below.refl _ _).alloc (Nat.le_refl _) _
    have hA0 := Arr.zeros w1 74 .u64 m
    have HW := Lib.hid (HC.out.2 w1 HB1.out)
    have H0 := Lib.hid (And.intro hB0 hA0)
    clear hB0 hA0 hmk HC
    go_loopw [26] (fun iv wr => ∃ (i : Nat) (L : List Nat), iv = .int .i64 (i : Int) ∧ i ≤ m ∧ Arr 74 .u64 wr w1.heap.size L ∧ L.length = m ∧ (∀ j, j < i → L[j]? = (shr s (64 - s) (A.drop k))[j]?) ∧ Below w1.heap.size w1 wr) (fun iv _ => m - (intOf iv).toNat)
    case atStart => exact ⟨0, List.replicate m 0, rfl, Nat.zero_le _, H0.out.2, by simp, fun j hj => absurd hj (Nat.not_lt_zero _), H0.out.1⟩
    case round =>
      obtain ⟨i, L, rfl, hi, hL, hLl, hpre, hbw⟩ := hrel
      by_cases hlt : i < m
      · have hlt' : (i : Int) < (m : Int) := by omega
        obtain ⟨x, hx⟩ : ∃ x, A[i + k]? = some x := ⟨_, List.getElem?_eq_getElem (by have := HM.out; omega)⟩
        have hxl : x < 18446744073709551616 := HA.out x (List.mem_of_getElem? hx)
        obtain ⟨ba, oa, hae, hba, hcx⟩ := (HW.out.rd.below hbw).at_ hx
        subst hae
        have hr := shr_get s (64 - s) (A.drop k) i x (by rw [List.getElem?_drop, Nat.add_comm]; exact hx)
        rw [List.getElem?_drop, show s + (64 - s) = 64 by omega] at hr
        obtain ⟨p, hp⟩ : ∃ p, x / 2 ^ s = p := ⟨_, rfl⟩
        have hpI : (x : Int) / 2 ^ s = (p : Int) := by rw [← hp]; norm_cast
        have hpl : p < 18446744073709551616 := by rw [← hp]; exact Nat.lt_of_le_of_lt (Nat.div_le_self _ _) hxl
        obtain ⟨q, hq⟩ : ∃ q, L[i]? = some q := ⟨_, List.getElem?_eq_getElem (by omega)⟩
        have hzc : wr.cell? ⟨w1.heap.size, i, none⟩ = some (.int .u64 (q : Int)) := hL.cell hq
        have hzf : wr.frozen? ⟨w1.heap.size, i, none⟩ = false := hL.frozen _
        obtain ⟨t, ht⟩ : ∃ t, 64 - s = t := ⟨_, rfl⟩
        have htI : (64 : Int) - (s : Int) = (t : Int) := by omega
        have HH := Lib.hid (And.intro hr (And.intro hp (And.intro hL (And.intro hpre hbw))))
        clear hr hp hL hpre hbw hx hq
        by_cases hik : i + k + 1 < A.length
        · have hik' : (i : Int) + (k : Int) + 1 < (A.length : Int) := by omega
          obtain ⟨y, hy⟩ : ∃ y, A[i + k + 1]? = some y := ⟨_, List.getElem?_eq_getElem hik⟩
          have hcy := (HW.out.rd.below HH.out.2.2.2.2).at_ hy
          obtain ⟨bb, ob, hbe, hbb, hcy⟩ := hcy
          injection hbe with hbe; injection hbe with hb1 hb2; subst hb1 hb2
          have hyl : y < 18446744073709551616 := HA.out y (List.mem_of_getElem? hy)
          have HY := Lib.hid hy
          clear hy
          go_wp2_with fail
          have hL2 := HH.out.2.2.1.set i p
          have hb2 := HH.out.2.2.2.2.setCell (p := ⟨w1.heap.size, i, none⟩) (Nat.le_refl _) (.int .u64 (p : Int))
          have hcy2 : (wr.setCell ⟨w1.heap.size, i, none⟩ (.int .u64 (p : Int))).cell? ⟨ba, oa + (i + k + 1), none⟩ = some (.int .u64 (y : Int)) := (World.cell?_of_block (Below.heap_setCell _ _ _ _ (show ba ≠ w1.heap.size by omega))).trans hcy
          have hcp2 : (wr.setCell ⟨w1.heap.size, i, none⟩ (.int .u64 (p : Int))).cell? ⟨w1.heap.size, i, none⟩ = some (.int .u64 (p : Int)) := hL2.cell (by rw [List.getElem?_set_self (by omega)])
          have hf2 : (wr.setCell ⟨w1.heap.size, i, none⟩ (.int .u64 (p : Int))).frozen? ⟨w1.heap.size, i, none⟩ = false := hL2.frozen _
          generalize wr.setCell ⟨w1.heap.size, i, none⟩ (.int .u64 (p : Int)) = W2 at *
          obtain ⟨g, hg⟩ : ∃ g, y * 2 ^ t % 2 ^ 64 = g := ⟨_, rfl⟩
          have hgI : (y : Int) * 2 ^ t % 18446744073709551616 = (g : Int) := by rw [← hg, show (2 : Nat) ^ 64 = 18446744073709551616 from rfl, Int.natCast_emod, Int.natCast_mul, Int.natCast_pow]; rfl
          have hgl : g < 18446744073709551616 := by rw [← hg]; exact Nat.mod_lt _ (by decide)
          obtain ⟨r, hr⟩ : ∃ r, p + g = r := ⟨_, rfl⟩
          have hor : bits .or .u64 (p : Int) (g : Int) = (r : Int) := by
            rw [u64_or_nat p g hpl hgl, ← hr, ← HH.out.2.1, ← hg, ← ht]
            have := shr_or (s := s) (t := 64 - s) (x := x) (y := y) (by rw [show s + (64 - s) = 64 by omega]; exact hxl)
            rw [show s + (64 - s) = 64 by omega] at this
            rw [this]
          have HS := Lib.hid (And.intro hg (And.intro hr (And.intro hL2 hb2)))
          clear hg hr hL2 hb2
          go_region
          go_wp2_with fail
          have hr2 := HH.out.1
          rw [HH.out.2.1, show k + (i + 1) = i + k + 1 by omega, HY.out, ht, Option.getD_some, HS.out.1, HS.out.2.1] at hr2
          have hfin : bits .or .u64 (p : Int) (IntKind.u64.wrap ((y : Int) * 2 ^ t)) = (r : Int) := by rw [IntKind.wrap_u64, hgI, hor]
          rw [hfin]
          refine ⟨⟨i + 1, (L.set i p).set i r, by simp, by omega, (HS.out.2.2.1.set i r).drew, by simp [hLl], ?_, (HS.out.2.2.2.setCell (p := ⟨w1.heap.size, i, none⟩) (Nat.le_refl _) _).drew⟩, by simp only [intOf]; omega⟩
          rw [List.set_set]
          rw [← ht] at hr2
          exact same_step HH.out.2.2.2.1 hr2 (by omega)
        · have hik' : ¬ ((i : Int) + (k : Int) + 1 < (A.length : Int)) := by omega
          go_wp2_with fail
          have hr2 := HH.out.1
          rw [HH.out.2.1, show k + (i + 1) = i + k + 1 by omega, List.getElem?_eq_none (show A.length ≤ i + k + 1 by omega)] at hr2
          simp only [Option.getD_none, Nat.zero_mul, Nat.zero_mod, Nat.add_zero] at hr2
          exact ⟨⟨i + 1, L.set i p, by simp, by omega, HH.out.2.2.1.set i p, by simp [hLl], same_step HH.out.2.2.2.1 hr2 (by omega), HH.out.2.2.2.2.setCell (p := ⟨w1.heap.size, i, none⟩) (Nat.le_refl _) _⟩, by simp only [intOf]; omega⟩
      · obtain rfl : i = m := by omega
        have heq : L = shr s (64 - s) (A.drop k) := same_all (fun j hj => hpre j (by rw [shr_len, List.length_drop] at hj; have := HM.out; omega)) (by rw [shr_len, List.length_drop]; have := HM.out; omega)
        have hW : WordsIn wr (some ⟨w1.heap.size, 0, none⟩) i i L := ⟨hLl, Nat.le_refl _, by omega, heq ▸ down_low HA.out k s hs64, hL.rd⟩
        have hlt' : ¬ ((i : Int) < (i : Int)) := by omega
        have hbq : Below w.heap.size w wr := Below.next0 HB1.out hbw
        have hdig : trimL L = dig (2 ^ 64) (val (2 ^ 64) A / 2 ^ z) := by rw [trim_dig (by decide) hW.low, heq, down_val A HA.out k s (by omega) hs64, HZ.out]
        have HE := Lib.hid (And.intro hW (And.intro hbq hdig))
        clear hW hbq hdig heq hL hpre hbw
        go_wp2_with (refine (cut_any _ _ _ _ _ HE.out.1).mono ?_; rintro e w5 ⟨rfl, hb5⟩; have HB5 := Lib.hid hb5; clear hb5)
        go_ret
        have hout := (HE.out.1.step HB5.out).trim
        rw [HE.out.2.2] at hout ⊢
        exact ⟨_, _, _, rfl, ⟨hout, .inr fun x hx => by injection hx with hx; subst hx; exact HB1.out.size⟩, Below.next0 HE.out.2.1 HB5.out⟩
end Go.Proofs.YtdilmfakkppgpaaGreatDoor
namespace Go.Proofs
open Go.Shelf
def Tryz.lays7x29_ren : Go.Shelf.Ren := ⟨fun | 29 => 145 | n => n, fun | 22 => 74 | 3 => 3 | 4 => 4 | 25 => 94 | 54 => 206 | 0 => 0 | 5 => 5 | n => n, fun | 1 => 1 | n => n⟩
theorem Tryz.lays7x29 : Go.Proofs.Lays7.n29 Tryz.prog Tryz.lays7x29_ren := {
  mixed := by kernel_rfl
  f29 := Tryz.func145.trans (congrArg some (by kernel_rfl))
  t0 := Tryz.underlying0
  a0 := Tryz.isAgg0
  z0 := Tryz.sizeOf0
  v0 := Tryz.zeroValue0
  i0 := by kernel_rfl
  t3 := Tryz.underlying3
  a3 := Tryz.isAgg3
  z3 := Tryz.sizeOf3
  v3 := Tryz.zeroValue3
  i3 := by kernel_rfl
  t4 := Tryz.underlying4
  a4 := Tryz.isAgg4
  z4 := Tryz.sizeOf4
  v4 := Tryz.zeroValue4
  i4 := by kernel_rfl
  t5 := Tryz.underlying5
  a5 := Tryz.isAgg5
  z5 := Tryz.sizeOf5
  v5 := Tryz.zeroValue5
  i5 := by kernel_rfl
  t22 := Tryz.underlying74
  a22 := Tryz.isAgg74
  z22 := Tryz.sizeOf74
  v22 := Tryz.zeroValue74
  i22 := by kernel_rfl
  t25 := Tryz.underlying94
  a25 := Tryz.isAgg94
  z25 := Tryz.sizeOf94
  v25 := Tryz.zeroValue94
  i25 := by kernel_rfl
  t54 := Tryz.underlying206
  a54 := Tryz.isAgg206
  z54 := Tryz.sizeOf206
  g1 := by kernel_rfl }
open Go.RowKit in
theorem Tryz.bits_TrailingZeros64 (x : Nat) (hx : x < 18446744073709551616) (w : World) (hT : x ≠ 0 → TabAt 1 Lib.deBruijn64tab w) :
    Calls Tryz.prog 145 #[.int .u64 x] w fun e w' => e = .returned (.int .i64 (Lib.ctz 64 x)) ∧ w' = w := Any7.bits_TrailingZeros64 Tryz.lays7x29 x hx w hT
end Go.Proofs
namespace Go.Proofs.YtdilmfakkppgpaaGreatDoor
open Go.RowKit WordsM
theorem tz_word {ls : List Nat} {i x k m : Nat} (h0 : val (2 ^ 64) (ls.take i) = 0) (hx : ls[i]? = some x) (he : x = 2 ^ k * (2 * m + 1)) (hk : k < 64) : IsTz (val (2 ^ 64) ls) (64 * i + k) := by
  have hi : i < ls.length := (List.getElem?_eq_some_iff.1 hx).1
  have hxe : ls[i] = x := (List.getElem?_eq_some_iff.1 hx).2
  have h1 := val_take_drop (B := 2 ^ 64) ls i
  rw [h0, Nat.zero_add, List.drop_eq_getElem_cons hi, hxe] at h1
  simp only [val] at h1
  obtain ⟨V, hV⟩ : ∃ V, val (2 ^ 64) (ls.drop (i + 1)) = V := ⟨_, rfl⟩
  rw [hV] at h1
  obtain ⟨t, ht⟩ : ∃ t, 64 = k + (t + 1) := ⟨63 - k, by omega⟩
  have e1 : x + 2 ^ 64 * V = 2 ^ k * (2 * (m + 2 ^ t * V) + 1) := by
    rw [he, show (2 : Nat) ^ 64 = 2 ^ k * (2 ^ t * 2) by rw [← Nat.pow_succ, ← Nat.pow_add, ← ht], Nat.mul_assoc, ← Nat.mul_add]
    congr 1
    rw [Nat.mul_comm (2 ^ t) 2, Nat.mul_assoc, Nat.mul_add]
    omega
  rw [e1, ← Nat.pow_mul, ← Nat.mul_assoc, ← Nat.pow_add] at h1
  rw [h1]
  have hp : 0 < 2 ^ (64 * i + k) := Nat.pow_pos (by decide)
  exact ⟨Nat.mul_mod_right _ _, by rw [Nat.mul_div_cancel_left _ hp]; omega⟩
def TabIn (w : World) : Prop := 1 < w.heap.size ∧ TabAt 1 Lib.deBruijn64tab w
theorem TabIn.step {w w' : World} (h : TabIn w) (hb : Below w.heap.size w w') : TabIn w' := ⟨Nat.lt_of_lt_of_le h.1 hb.size, fun j hj => (hb.cell (p := ⟨_, j, none⟩) h.1).trans (h.2 j hj)⟩
set_option maxRecDepth 100000 in
set_option maxHeartbeats 2000000 in
theorem natzeros_any (a : Option Addr) (n c : Nat) (ls : List Nat) (w : World) (h : WordsIn w a n c ls) (hT : TabIn w) (hn : n ≤ 1000000) (h0 : val (2 ^ 64) ls ≠ 0) :
    Calls Tryz.prog 90 #[.slice a n c] w fun e w' => (∃ z : Nat, e = .returned (.int .i64 (z : Int)) ∧ IsTz (val (2 ^ 64) ls) z ∧ z < 64 * n) ∧ Below w.heap.size w w' := by
  have hln := h.len
  have H := Lib.hid (And.intro h (And.intro hT h0))
  clear h hT h0
  go_enter Tryz.func90, Tryz.ntmps90
  go_wp2_with fail
  go_loopw [7] (fun v wr => ∃ i : Nat, v = .int .i64 (i : Int) ∧ i ≤ n ∧ val (2 ^ 64) (ls.take i) = 0 ∧ Below w.heap.size w wr) (fun v _ => n - (intOf v).toNat)
  case atStart => exact ⟨0, rfl, Nat.zero_le _, by simp [val], Below.refl _ _⟩
  case round =>
    obtain ⟨i, rfl, hi, hv, hb⟩ := hrel
    by_cases hlt : i < n
    · have hlt' : (i : Int) < (n : Int) := by omega
      obtain ⟨x, hx⟩ : ∃ x, ls[i]? = some x := ⟨_, List.getElem?_eq_getElem (by omega)⟩
      have hxl : x < 18446744073709551616 := H.out.1.low x (List.mem_of_getElem? hx)
      obtain ⟨g1, o1, hae, hg1, hcx⟩ := (H.out.1.rd.below hb).at_ hx
      subst hae
      have HH := Lib.hid (And.intro hv (And.intro hb hx))
      clear hv hb hx
      by_cases hx0 : x = 0
      · subst hx0
        go_wp2_with fail
        refine ⟨⟨i + 1, by simp, by omega, ?_, HH.out.2.1⟩, by simp only [intOf]; omega⟩
        rw [val_take_snoc ls i 0 HH.out.2.2, HH.out.1, Nat.mul_zero]
      · have hx0' : ((x : Int) == 0) = false := by rw [beq_eq_false_iff_ne]; omega
        have hctz := fun W (hb : Below w.heap.size w W) => (Tryz.bits_TrailingZeros64 x hxl W (fun _ => (H.out.2.1.step hb).2)).mono (R' := fun e w' => e = .returned (.int .i64 (Lib.ctz 64 x)) ∧ W = w') (by rintro e w' ⟨h1, h2⟩; exact ⟨h1, h2.symm⟩)
        obtain ⟨m, hm, hk⟩ := Lib.ctzFrom_spec 64 x (by omega) hxl
        have hce : Lib.ctz 64 x = Lib.ctzFrom 64 x := by unfold Lib.ctz; rw [if_neg hx0]
        rw [← hce] at hm hk
        obtain ⟨k, hkk⟩ : ∃ k, Lib.ctz 64 x = k := ⟨_, rfl⟩
        rw [hkk] at hm hk
        rw [hkk] at hctz
        have HZ := Lib.hid (And.intro hm hctz)
        clear hctz hm hce hkk
        go_wp2_with (refine (HZ.out.2 _ HH.out.2.1).mono ?_; rintro e w5 ⟨rfl, rfl⟩)
        go_ret
        exact ⟨⟨64 * i + k, rfl, tz_word HH.out.1 HH.out.2.2 HZ.out.1 hk, by omega⟩, HH.out.2.1⟩
    · exact absurd (by rw [List.take_of_length_le (by omega)] at hv; exact hv) H.out.2.2
end Go.Proofs.YtdilmfakkppgpaaGreatDoor
namespace Go.Proofs.YtdilmfakkppgpaaGreatDoor
open Go.RowKit WordsM
def MakeOut (neg : Bool) (v : Nat) (exp : Int) (neg' : Bool) (exp' : Int) (L : List Nat) (er : Int) : Prop :=
  (v = 0 ∧ neg' = false ∧ exp' = 0 ∧ L = [] ∧ er = 0) ∨ ∃ z : Nat, IsTz v z ∧
    (((65536 < exp ∨ exp < -65536 - (z : Int) ∨ ¬ IsNum neg (exp + z) (dig (2 ^ 64) (v / 2 ^ z))) ∧ neg' = false ∧ exp' = 0 ∧ L = [] ∧ er = 2) ∨
     (exp ≤ 65536 ∧ -65536 - (z : Int) ≤ exp ∧ IsNum neg (exp + z) (dig (2 ^ 64) (v / 2 ^ z)) ∧ neg' = neg ∧ exp' = exp + z ∧ L = dig (2 ^ 64) (v / 2 ^ z) ∧ er = 0))
set_option maxRecDepth 100000 in
set_option maxHeartbeats 2000000 in
theorem nummake_any (neg : Bool) (a : Option Addr) (n c : Nat) (ls : List Nat) (exp : Int) (w : World) (h : WordsIn w a n c ls) (hT : TabIn w) (hn : n ≤ 100000) (he : -1000000000 ≤ exp) (he2 : exp ≤ 1000000000) :
    Calls Tryz.prog 47 #[.bool neg, .slice a n c, .int .i64 exp] w fun e w' => ∃ neg' exp' a' n' c' L er, e = .returned (.tuple #[.agg #[.bool neg', .int .i64 exp', .slice a' n' c'], .int .i64 er]) ∧ MakeOut neg (val (2 ^ 64) ls) exp neg' exp' L er ∧ NewIn w w' a' n' c' L ∧ Below w.heap.size w w' := by
  have hbit := fun W (hb : Below w.heap.size w W) => bits_any a n c ls W (h.step hb) (by omega)
  have hB0 : ∀ o, Below w.heap.size w (w.alloc o) := fun o => (Below.refl _ _).alloc (Nat.le_refl _) _
  by_cases h0 : val (2 ^ 64) ls = 0
  · have HB := Lib.hid (And.intro hbit h0)
    clear hbit h0 h hT he he2
    go_enter Tryz.func47, Tryz.ntmps47
    go_upto_if 12 with (go_at_call_of 89 a; refine (HB.out.1 _ (hB0 _)).mono ?_; rintro e w1 ⟨⟨k, rfl, hk⟩, hb1⟩; obtain rfl : k = 0 := hk.2 HB.out.2; have HB1 := Lib.hid hb1; clear hb1)
    have hx := box_at w false 0 none 0 0 41
    have hf : ∀ i, w1.frozen? ⟨w.heap.size, i, none⟩ = false := fun i => (HB1.out.frozen (p := ⟨w.heap.size, i, none⟩) hx.1).trans (frozen_of_row _ _ _ _ _ (heap_alloc_new _ _))
    have hc0 : w1.cell? ⟨w.heap.size, 0, none⟩ = some (.bool false) := (HB1.out.cell (p := ⟨w.heap.size, 0, none⟩) hx.1).trans hx.2.1
    have hc1 : w1.cell? ⟨w.heap.size, 1, none⟩ = some (.int .i64 0) := (HB1.out.cell (p := ⟨w.heap.size, 1, none⟩) hx.1).trans hx.2.2.1
    have hc2 : w1.cell? ⟨w.heap.size, 2, none⟩ = some (.slice none 0 0) := (HB1.out.cell (p := ⟨w.heap.size, 2, none⟩) hx.1).trans hx.2.2.2
    have hf0 := hf 0
    have hf1 := hf 1
    have hf2 := hf 2
    have hd1 : (w1.setCell ⟨w.heap.size, 0, none⟩ (.bool false)).cell? ⟨w.heap.size, 1, none⟩ = some (.int .i64 0) := (World.cell?_setCell_other _ _ _ _ (by simp)).trans hc1
    have hd2 : ((w1.setCell ⟨w.heap.size, 0, none⟩ (.bool false)).setCell ⟨w.heap.size, 1, none⟩ (.int .i64 0)).cell? ⟨w.heap.size, 2, none⟩ = some (.slice none 0 0) := (World.cell?_setCell_other _ _ _ _ (by simp)).trans ((World.cell?_setCell_other _ _ _ _ (by simp)).trans hc2)
    clear hf hx
    go_wp2_with fail
    have hb3 : Below w.heap.size w (((w1.setCell ⟨w.heap.size, 0, none⟩ (.bool false)).setCell ⟨w.heap.size, 1, none⟩ (.int .i64 0)).setCell ⟨w.heap.size, 2, none⟩ (.slice none 0 0)) := (((Below.next0 (hB0 _) HB1.out).setCell (p := ⟨w.heap.size, 0, none⟩) (Nat.le_refl _) _).setCell (p := ⟨w.heap.size, 1, none⟩) (Nat.le_refl _) _).setCell (p := ⟨w.heap.size, 2, none⟩) (Nat.le_refl _) _
    have k0 : (((w1.setCell ⟨w.heap.size, 0, none⟩ (.bool false)).setCell ⟨w.heap.size, 1, none⟩ (.int .i64 0)).setCell ⟨w.heap.size, 2, none⟩ (.slice none 0 0)).cell? ⟨w.heap.size, 0, none⟩ = some (.bool false) := (World.cell?_setCell_other _ _ _ _ (by simp)).trans ((World.cell?_setCell_other _ _ _ _ (by simp)).trans (World.cell?_setCell_same' _ _ _ (by rw [hc0]; rfl)))
    have k1 : (((w1.setCell ⟨w.heap.size, 0, none⟩ (.bool false)).setCell ⟨w.heap.size, 1, none⟩ (.int .i64 0)).setCell ⟨w.heap.size, 2, none⟩ (.slice none 0 0)).cell? ⟨w.heap.size, 1, none⟩ = some (.int .i64 0) := (World.cell?_setCell_other _ _ _ _ (by simp)).trans (World.cell?_setCell_same' _ _ _ (by rw [hd1]; rfl))
    have k2 : (((w1.setCell ⟨w.heap.size, 0, none⟩ (.bool false)).setCell ⟨w.heap.size, 1, none⟩ (.int .i64 0)).setCell ⟨w.heap.size, 2, none⟩ (.slice none 0 0)).cell? ⟨w.heap.size, 2, none⟩ = some (.slice none 0 0) := World.cell?_setCell_same' _ _ _ (by rw [hd2]; rfl)
    generalize (((w1.setCell ⟨w.heap.size, 0, none⟩ (.bool false)).setCell ⟨w.heap.size, 1, none⟩ (.int .i64 0)).setCell ⟨w.heap.size, 2, none⟩ (.slice none 0 0)) = W3 at *
    refine ⟨rfl, .tuple #[.agg #[.bool false, .int .i64 0, .slice none 0 0], .int .i64 0], by simp [results, go_sem, k0, k1, k2], false, 0, none, 0, 0, [], 0, rfl, .inl ⟨HB.out.2, rfl, rfl, rfl, rfl⟩, NewIn.nil_ _ _, hb3⟩
  · have hzr := fun W (hb : Below w.heap.size w W) => natzeros_any a n c ls W (h.step hb) (hT.step hb) (by omega) h0
    have hdn := fun W (hb : Below w.heap.size w W) z hz => natdown_new a n c ls z W (h.step hb) hn hz
    have HB := Lib.hid (And.intro hbit (And.intro hzr (And.intro hdn h0)))
    clear hbit hzr hdn h0 h hT
    by_cases hx1 : 65536 < exp
    · go_enter Tryz.func47, Tryz.ntmps47
      go_upto_if 12 with (go_at_call_of 89 a; refine (HB.out.1 _ (hB0 _)).mono ?_; rintro e w1 ⟨⟨k, rfl, hk⟩, hb1⟩; have hk0 : ((k : Int) == 0) = false := by { rw [beq_eq_false_iff_ne]; intro e; exact HB.out.2.2.2 (hk.1 (by omega)) }; have HB1 := Lib.hid hb1; clear hb1 hk)
      go_upto_if 23 with (go_at_call_of 90 a; refine (HB.out.2.1 _ (Below.next0 (hB0 _) HB1.out)).mono ?_; rintro e w2 ⟨⟨z, rfl, hz, hzl⟩, hb2⟩; have HB2 := Lib.hid (And.intro hz (And.intro hzl hb2)); clear hb2 hz hzl)
      have hl0 := (box_at w false 0 none 0 0 41).1
      have hN := ((NumBox.new w (.bool false) (.int .i64 0) (.slice none 0 0) 41).step HB1.out hl0).step HB2.out.2.2 (Nat.lt_of_lt_of_le hl0 HB1.out.size)
      have hbw : Below w.heap.size w w2 := Below.next0 (Below.next0 (hB0 _) HB1.out) HB2.out.2.2
      have hS := hN.store (.bool false) (.int .i64 0) (.slice none 0 0)
      have hL := NumBox.below hbw (Nat.le_refl _) (.bool false) (.int .i64 0) (.slice none 0 0)
      have HS := Lib.hid (And.intro hS hL)
      have hc0 := hN.c0
      have hc1 := hN.c1
      have hc2 := hN.c2
      have hf0 := hN.f0
      have hf1 := hN.f1
      have hf2 := hN.f2
      have hd1 := hN.d1 (.bool false)
      have hd2 := hN.d2 (.bool false) (.int .i64 0)
      clear hN hbw hS hL hl0
      go_wp2_with fail
      have k0 := HS.out.1.c0
      have k1 := HS.out.1.c1
      have k2 := HS.out.1.c2
      have hb3 := HS.out.2
      clear HS hd1 hd2
      generalize (((w2.setCell ⟨w.heap.size, 0, none⟩ (.bool false)).setCell ⟨w.heap.size, 1, none⟩ (.int .i64 0)).setCell ⟨w.heap.size, 2, none⟩ (.slice none 0 0)) = W3 at *
      refine ⟨rfl, .tuple #[.agg #[.bool false, .int .i64 0, .slice none 0 0], .int .i64 2], by simp [results, go_sem, k0, k1, k2], false, 0, none, 0, 0, [], 2, rfl, .inr ⟨z, HB2.out.1, .inl ⟨.inl hx1, rfl, rfl, rfl, rfl⟩⟩, NewIn.nil_ _ _, hb3⟩
    · go_enter Tryz.func47, Tryz.ntmps47
      go_upto_if 12 with (go_at_call_of 89 a; refine (HB.out.1 _ (hB0 _)).mono ?_; rintro e w1 ⟨⟨k, rfl, hk⟩, hb1⟩; have hk0 : ((k : Int) == 0) = false := by { rw [beq_eq_false_iff_ne]; intro e; exact HB.out.2.2.2 (hk.1 (by omega)) }; have HB1 := Lib.hid hb1; clear hb1 hk)
      go_upto_if 23 with (go_at_call_of 90 a; refine (HB.out.2.1 _ (Below.next0 (hB0 _) HB1.out)).mono ?_; rintro e w2 ⟨⟨z, rfl, hz, hzl⟩, hb2⟩; have HB2 := Lib.hid (And.intro hz (And.intro hzl hb2)); clear hb2 hz hzl)
      obtain ⟨y, hy⟩ : ∃ y : Int, -65536 - (z : Int) = y := ⟨_, rfl⟩
      have hzw : wrap64 (-65536 - (z : Int)) = y := by have := HB2.out.2.1; rw [← hy]; unfold wrap64; omega
      have HY := Lib.hid hy
      clear hy
      by_cases hx2 : exp < y
      · have hx1' : exp ≤ 65536 := by omega
        have hl0 := (box_at w false 0 none 0 0 41).1
        have hN := ((NumBox.new w (.bool false) (.int .i64 0) (.slice none 0 0) 41).step HB1.out hl0).step HB2.out.2.2 (Nat.lt_of_lt_of_le hl0 HB1.out.size)
        have hbw : Below w.heap.size w w2 := Below.next0 (Below.next0 (hB0 _) HB1.out) HB2.out.2.2
        have hS := hN.store (.bool false) (.int .i64 0) (.slice none 0 0)
        have hL := NumBox.below hbw (Nat.le_refl _) (.bool false) (.int .i64 0) (.slice none 0 0)
        have HS := Lib.hid (And.intro hS hL)
        have hc0 := hN.c0
        have hc1 := hN.c1
        have hc2 := hN.c2
        have hf0 := hN.f0
        have hf1 := hN.f1
        have hf2 := hN.f2
        have hd1 := hN.d1 (.bool false)
        have hd2 := hN.d2 (.bool false) (.int .i64 0)
        clear hN hbw hS hL hl0
        go_wp2_with fail
        have k0 := HS.out.1.c0
        have k1 := HS.out.1.c1
        have k2 := HS.out.1.c2
        have hb3 := HS.out.2
        clear HS hd1 hd2 hzw hx1'
        generalize (((w2.setCell ⟨w.heap.size, 0, none⟩ (.bool false)).setCell ⟨w.heap.size, 1, none⟩ (.int .i64 0)).setCell ⟨w.heap.size, 2, none⟩ (.slice none 0 0)) = W3 at k0 k1 k2 hb3 ⊢
        refine ⟨rfl, .tuple #[.agg #[.bool false, .int .i64 0, .slice none 0 0], .int .i64 2], by simp [results, go_sem, k0, k1, k2], false, 0, none, 0, 0, [], 2, rfl, .inr ⟨z, HB2.out.1, .inl ⟨.inr (.inl (by rw [HY.out]; exact hx2)), rfl, rfl, rfl, rfl⟩⟩, NewIn.nil_ _ _, hb3⟩
      · have hx2' : y ≤ exp := by omega
        have hzl : (z : Nat) ≤ 100000000 := by have := HB2.out.2.1; omega
        have hbw : Below w.heap.size w w2 := Below.next0 (Below.next0 (hB0 _) HB1.out) HB2.out.2.2
        have HDN := Lib.hid (And.intro (HB.out.2.2.1 w2 hbw z hzl) hbw)
        clear hbw hzl
        have hl0 := box_lt w (.cells #[.bool false, .int .i64 0, .slice none 0 0] 41)
        have hN := ((NumBox.new w (.bool false) (.int .i64 0) (.slice none 0 0) 41).step HB1.out hl0).step HB2.out.2.2 (Nat.lt_of_lt_of_le hl0 HB1.out.size)
        have HN := Lib.hid (And.intro hN (Nat.lt_of_lt_of_le (Nat.lt_of_lt_of_le hl0 HB1.out.size) HB2.out.2.2.size))
        clear hN hl0
        have he3 : -9223372036854775808 ≤ exp + (z : Int) := by omega
        have he4 : exp + (z : Int) ≤ 9223372036854775807 := by have := HB2.out.2.1; omega
        by_cases hnum : IsNum neg (exp + (z : Int)) (dig (2 ^ 64) (val (2 ^ 64) ls / 2 ^ z))
        · have hdec := decide_eq_true hnum
          have HNU := Lib.hid hnum
          clear hnum
          go_wp2_with (first
            | (go_at_call_of 91 a; refine HDN.out.1.mono ?_; rintro e w3 ⟨a', n', c', rfl, hW, hb3⟩; have HFR := Lib.hid (hW.lower HDN.out.2.size).new; have HB3 := Lib.hid (And.intro hW.toWordsIn hb3); clear hW hb3)
            | (refine (numright_any neg (exp + (z : Int)) a' n' c' _ _ (HB3.out.1.step ((Below.refl _ _).alloc (Nat.le_refl _) _)) he3 he4 (by have := HB3.out.1.cap; have := HB3.out.1.most; omega)).mono ?_; rintro r w4 ⟨hr, hb4⟩; rw [hdec] at hr; subst hr;
               have hB4 := (Below.next0 (Below.next0 HB3.out.2 ((Below.refl _ _).alloc (Nat.le_refl _) (.cells #[.bool neg, .int .i64 (exp + (z : Int)), .slice a' n' c'] 41))) hb4);
               have hRN := HN.out.1.step hB4 HN.out.2;
               have hGN := (NumBox.new w3 (.bool neg) (.int .i64 (exp + (z : Int))) (.slice a' n' c') 41).step hb4 (box_lt _ _);
               have hc0 := hRN.c0; have hc1 := hRN.c1; have hc2 := hRN.c2; have hf0 := hRN.f0; have hf1 := hRN.f1; have hf2 := hRN.f2; have hd1 := hRN.d1 (.bool neg); have hd2 := hRN.d2 (.bool neg) (.int .i64 (exp + (z : Int)));
               have hg0 := hGN.c0; have hg1 := hGN.c1; have hg2 := hGN.c2;
               have HB4 := Lib.hid (And.intro hRN (And.intro (Below.next0 HDN.out.2 hB4) ((HB3.out.1.step ((Below.refl _ _).alloc (Nat.le_refl _) (.cells #[.bool neg, .int .i64 (exp + (z : Int)), .slice a' n' c'] 41))).step hb4))); clear hRN hGN hB4 hb4))
          have hS := HB4.out.1.store (.bool neg) (.int .i64 (exp + (z : Int))) (.slice a' n' c')
          have k0 := hS.c0
          have k1 := hS.c1
          have k2 := hS.c2
          have hb5 := NumBox.below HB4.out.2.1 (Nat.le_refl _) (.bool neg) (.int .i64 (exp + (z : Int))) (.slice a' n' c')
          have hW5 : WordsIn _ a' n' c' (dig (2 ^ 64) (val (2 ^ 64) ls / 2 ^ z)) := ⟨HB4.out.2.2.len, HB4.out.2.2.cap, HB4.out.2.2.most, HB4.out.2.2.low, (HB4.out.2.2.rd.store3 HB4.out.1 (fun _ => by simp [nv]) (fun _ => by simp [nv]) (fun _ => by simp [nv]) (.bool neg) (.int .i64 (exp + (z : Int))) (.slice a' n' c')).more (box_size _ _ _ _ _)⟩
          clear hS hc0 hc1 hc2 hf0 hf1 hf2 hd1 hd2 hg0 hg1 hg2 hzw
          generalize World.setCell _ _ _ = W5 at k0 k1 k2 hb5 hW5 ⊢
          refine ⟨rfl, .tuple #[.agg #[.bool neg, .int .i64 (exp + (z : Int)), .slice a' n' c'], .int .i64 0], by simp [results, go_sem, k0, k1, k2], neg, exp + (z : Int), a', n', c', _, 0, rfl, .inr ⟨z, HB2.out.1, .inr ⟨hx1, by rw [HY.out]; exact hx2', HNU.out, rfl, rfl, rfl, rfl⟩⟩, ⟨hW5, HFR.out⟩, hb5⟩
        · have hdec := decide_eq_false hnum
          have HNU := Lib.hid hnum
          clear hnum
          go_wp2_with (first
            | (go_at_call_of 91 a; refine HDN.out.1.mono ?_; rintro e w3 ⟨a', n', c', rfl, hW, hb3⟩; have HFR := Lib.hid (hW.lower HDN.out.2.size).new; have HB3 := Lib.hid (And.intro hW.toWordsIn hb3); clear hW hb3)
            | (refine (numright_any neg (exp + (z : Int)) a' n' c' _ _ (HB3.out.1.step ((Below.refl _ _).alloc (Nat.le_refl _) _)) he3 he4 (by have := HB3.out.1.cap; have := HB3.out.1.most; omega)).mono ?_; rintro r w4 ⟨hr, hb4⟩; rw [hdec] at hr; subst hr;
               have hB4 := (Below.next0 (Below.next0 HB3.out.2 ((Below.refl _ _).alloc (Nat.le_refl _) (.cells #[.bool neg, .int .i64 (exp + (z : Int)), .slice a' n' c'] 41))) hb4);
               have hRN := HN.out.1.step hB4 HN.out.2;
               have hGN := (NumBox.new w3 (.bool neg) (.int .i64 (exp + (z : Int))) (.slice a' n' c') 41).step hb4 (box_lt _ _);
               have hc0 := hRN.c0; have hc1 := hRN.c1; have hc2 := hRN.c2; have hf0 := hRN.f0; have hf1 := hRN.f1; have hf2 := hRN.f2; have hd1 := hRN.d1 (.bool false); have hd2 := hRN.d2 (.bool false) (.int .i64 0);
               have hg0 := hGN.c0; have hg1 := hGN.c1; have hg2 := hGN.c2;
               have HB4 := Lib.hid (And.intro hRN (And.intro (Below.next0 HDN.out.2 hB4) ((HB3.out.1.step ((Below.refl _ _).alloc (Nat.le_refl _) (.cells #[.bool neg, .int .i64 (exp + (z : Int)), .slice a' n' c'] 41))).step hb4))); clear hRN hGN hB4 hb4))
          have hS := HB4.out.1.store (.bool false) (.int .i64 0) (.slice none 0 0)
          have k0 := hS.c0
          have k1 := hS.c1
          have k2 := hS.c2
          have hb5 := NumBox.below HB4.out.2.1 (Nat.le_refl _) (.bool false) (.int .i64 0) (.slice none 0 0)
          have hW5 : WordsIn _ a' n' c' (dig (2 ^ 64) (val (2 ^ 64) ls / 2 ^ z)) := ⟨HB4.out.2.2.len, HB4.out.2.2.cap, HB4.out.2.2.most, HB4.out.2.2.low, (HB4.out.2.2.rd.store3 HB4.out.1 (fun _ => by simp [nv]) (fun _ => by simp [nv]) (fun _ => by simp [nv]) (.bool false) (.int .i64 0) (.slice none 0 0)).more (box_size _ _ _ _ _)⟩
          clear hS hc0 hc1 hc2 hf0 hf1 hf2 hd1 hd2 hg0 hg1 hg2 hzw
          generalize World.setCell _ _ _ = W5 at k0 k1 k2 hb5 hW5 ⊢
          refine ⟨rfl, .tuple #[.agg #[.bool false, .int .i64 0, .slice none 0 0], .int .i64 2], by simp [results, go_sem, k0, k1, k2], false, 0, none, 0, 0, [], 2, rfl, .inr ⟨z, HB2.out.1, .inl ⟨.inr (.inr HNU.out), rfl, rfl, rfl, rfl⟩⟩, NewIn.nil_ _ _, hb5⟩
end Go.Proofs.YtdilmfakkppgpaaGreatDoor
namespace Go.Proofs.YtdilmfakkppgpaaGreatDoor
open Go.RowKit WordsM
theorem halves_val (ws : List Nat) : NatM.val (NatM.halves ws) = val (2 ^ 64) ws := by
  induction ws with
  | nil => rfl
  | cons x r ih =>
    have e : NatM.halves (x :: r) = (x % 4294967296) :: (x / 4294967296) :: NatM.halves r := rfl
    rw [e]
    simp only [NatM.val, val, ih]
    rw [show (2 : Nat) ^ 64 = 4294967296 * 4294967296 by decide, Nat.mul_assoc]
    show x % 4294967296 + 4294967296 * (x / 4294967296 + 4294967296 * val (4294967296 * 4294967296) r) = _
    rw [Nat.mul_add]
    omega
end Go.Proofs.YtdilmfakkppgpaaGreatDoor
namespace Go.Proofs.YtdilmfakkppgpaaGreatDoor
namespace DecM
open WordsM
abbrev dec (n : Nat) : List UInt8 := Lib.decDigits n
def pd : Nat → Nat → List UInt8
  | 0, _ => []
  | k + 1, r => pd k (r / 10) ++ [UInt8.ofNat (48 + r % 10)]
theorem dec_low {n : Nat} (h : n < 10) : dec n = [UInt8.ofNat (48 + n)] := by
  rw [dec, Lib.decDigits, dif_pos h]
theorem dec_high {n : Nat} (h : ¬ n < 10) : dec n = dec (n / 10) ++ [UInt8.ofNat (48 + n % 10)] := by
  rw [dec, Lib.decDigits, dif_neg h]
theorem dec_pd (q : Nat) (hq : 0 < q) : ∀ k r, r < 10 ^ k → dec (q * 10 ^ k + r) = dec q ++ pd k r
  | 0, r, h => by
    obtain rfl : r = 0 := by simpa using h
    simp [pd]
  | k + 1, r, h => by
    have hp : 10 ≤ q * 10 ^ (k + 1) := by
      have h1 : 1 ≤ 10 ^ k := Nat.pow_pos (by decide)
      have h2 : 1 * 1 ≤ q * 10 ^ k := Nat.mul_le_mul hq h1
      rw [Nat.pow_succ, ← Nat.mul_assoc]; omega
    have e1 : (q * 10 ^ (k + 1) + r) / 10 = q * 10 ^ k + r / 10 := by
      rw [Nat.pow_succ, ← Nat.mul_assoc]; omega
    have e2 : (q * 10 ^ (k + 1) + r) % 10 = r % 10 := by
      rw [Nat.pow_succ, ← Nat.mul_assoc]; omega
    have h3 : r / 10 < 10 ^ k := by rw [Nat.pow_succ] at h; omega
    rw [dec_high (by omega), e1, e2, dec_pd q hq k (r / 10) h3, pd, List.append_assoc]
theorem pd_zero : ∀ k, pd k 0 = List.replicate k 48
  | 0 => rfl
  | k + 1 => by
    rw [pd, Nat.zero_div, pd_zero k, List.replicate_succ']; rfl
theorem dec_len_pos (n : Nat) : 1 ≤ (dec n).length := by
  by_cases h : n < 10
  · rw [dec_low h]; simp
  · rw [dec_high h]; simp
theorem dec_len (j : Nat) : ∀ n, n < 10 ^ j → 1 ≤ j → (dec n).length ≤ j := by
  induction j with
  | zero => intro n _ h; omega
  | succ j ih =>
    intro n hn _
    by_cases h : n < 10
    · rw [dec_low h]; simp
    · rw [dec_high h]
      have hj : 1 ≤ j := by
        rcases Nat.eq_zero_or_pos j with rfl | h1
        · simp at hn; omega
        · exact h1
      have := ih (n / 10) (by rw [Nat.pow_succ] at hn; omega) hj
      simp only [List.length_append, List.length_singleton]
      omega
theorem pd_dec : ∀ k r, 1 ≤ k → r < 10 ^ k → pd k r = List.replicate (k - (dec r).length) 48 ++ dec r
  | 0, _, h, _ => by omega
  | k + 1, r, _, hr => by
    by_cases h : r < 10
    · rw [dec_low h, pd, Nat.div_eq_of_lt h, Nat.mod_eq_of_lt h, pd_zero]; simp
    · have hk : 1 ≤ k := by
        rcases Nat.eq_zero_or_pos k with rfl | h1
        · simp at hr; omega
        · exact h1
      rw [pd, pd_dec k (r / 10) hk (by rw [Nat.pow_succ] at hr; omega), dec_high h, List.append_assoc]
      simp
def dv (l : List UInt8) : Nat := l.foldl (fun a b => 10 * a + (b.toNat - 48)) 0
theorem dv_from (l : List UInt8) : ∀ a, l.foldl (fun a b => 10 * a + (b.toNat - 48)) a = a * 10 ^ l.length + dv l := by
  induction l with
  | nil => intro a; simp [dv]
  | cons c r ih =>
    intro a
    have h1 := ih (10 * a + (c.toNat - 48))
    have h2 := ih (10 * 0 + (c.toNat - 48))
    simp only [List.foldl_cons, dv, List.length_cons, Nat.pow_succ] at h1 h2 ⊢
    rw [h1, h2, Nat.add_mul, Nat.add_mul, Nat.mul_comm 10 a, Nat.mul_assoc, Nat.mul_comm 10 (10 ^ r.length)]
    omega
theorem dv_append (l r : List UInt8) : dv (l ++ r) = dv l * 10 ^ r.length + dv r := by
  rw [dv, List.foldl_append]
  exact dv_from r _
theorem dv_snoc (l : List UInt8) (c : UInt8) : dv (l ++ [c]) = 10 * dv l + (c.toNat - 48) := by
  rw [dv_append]; simp [dv]; omega
theorem digit_byte (d : Nat) (h : d < 10) : (UInt8.ofNat (48 + d)).toNat = 48 + d := by
  rw [UInt8.toNat_ofNat']; omega
theorem dv_dec (n : Nat) : dv (dec n) = n := by
  induction n using Nat.strongRecOn with
  | ind n ih =>
    by_cases h : n < 10
    · rw [dec_low h]; simp [dv]; omega
    · rw [dec_high h, dv_snoc, ih (n / 10) (by omega), digit_byte _ (Nat.mod_lt _ (by decide))]; omega
def allD (l : List UInt8) : Prop := ∀ c ∈ l, 48 ≤ c.toNat ∧ c.toNat ≤ 57
theorem dv_lt (l : List UInt8) (h : allD l) : dv l < 10 ^ l.length := by
  rcases List.eq_nil_or_concat l with rfl | ⟨r, c, rfl⟩
  · simp [dv]
  · rw [List.concat_eq_append] at h ⊢
    have h1 := dv_lt r fun x hx => h x (by simp [hx])
    have h2 := h c (by simp)
    rw [dv_snoc, List.length_append, List.length_singleton, Nat.pow_succ]; omega
termination_by l.length
decreasing_by simp_all
theorem dec_all (n : Nat) : allD (dec n) := by
  induction n using Nat.strongRecOn with
  | ind n ih =>
    intro c hc
    by_cases h : n < 10
    · rw [dec_low h, List.mem_singleton] at hc; subst hc; rw [digit_byte n h]; omega
    · rw [dec_high h] at hc
      rcases List.mem_append.1 hc with hc | hc
      · exact ih (n / 10) (by omega) c hc
      · rw [List.mem_singleton] at hc; subst hc; rw [digit_byte _ (Nat.mod_lt _ (by decide))]; omega
theorem dec_head (n : Nat) (hn : n ≠ 0) : (dec n).headD 0 ≠ 48 := by
  induction n using Nat.strongRecOn with
  | ind n ih =>
    by_cases h : n < 10
    · rw [dec_low h]
      show UInt8.ofNat (48 + n) ≠ 48
      intro e
      have := congrArg UInt8.toNat e
      rw [digit_byte n h] at this
      have h2 : (48 : UInt8).toNat = 48 := rfl
      omega
    · rw [dec_high h]
      have h1 := ih (n / 10) (by omega) (by omega)
      have h2 := dec_len_pos (n / 10)
      cases hd : dec (n / 10) with
      | nil => rw [hd] at h2; simp at h2
      | cons x r => rw [hd] at h1; simpa using h1
def digN : List UInt8 → Nat
  | [] => 0
  | c :: r => if 48 ≤ c.toNat ∧ c.toNat ≤ 57 then digN r + 1 else 0
theorem digN_le : ∀ l, digN l ≤ l.length
  | [] => Nat.le_refl _
  | c :: r => by
    have := digN_le r
    simp only [digN, List.length_cons]
    split <;> omega
theorem digN_spec : ∀ (l : List UInt8) (k : Nat), k ≤ l.length → (∀ j c, l[j]? = some c → j < k → 48 ≤ c.toNat ∧ c.toNat ≤ 57) → (∀ c, l[k]? = some c → ¬ (48 ≤ c.toNat ∧ c.toNat ≤ 57)) → digN l = k
  | [], k, h, _, _ => by simp at h; simp [digN, h]
  | c :: r, 0, _, _, h3 => by
    have := h3 c rfl
    simp [digN, this]
  | c :: r, k + 1, h1, h2, h3 => by
    have hc := h2 0 c rfl (by omega)
    have := digN_spec r k (by simpa using h1) (fun j x hx hj => h2 (j + 1) x (by simpa using hx) (by omega)) (fun x hx => h3 x (by simpa using hx))
    simp [digN, hc, this]
theorem digN_take : ∀ l : List UInt8, allD (l.take (digN l))
  | [] => fun c hc => by simp at hc
  | c :: r => by
    simp only [digN]
    split
    · rename_i h
      intro x hx
      rw [List.take_succ_cons] at hx
      rcases List.mem_cons.1 hx with rfl | hx
      · exact h
      · exact digN_take r x hx
    · intro x hx; simp at hx
theorem digN_app (l r : List UInt8) (h : allD l) : digN (l ++ r) = l.length + digN r := by
  induction l with
  | nil => simp
  | cons c l ih =>
    have h1 := h c (by simp)
    have h2 := ih fun x hx => h x (by simp [hx])
    simp [digN, h1, h2]; omega
def minus : List UInt8 → Bool × List UInt8
  | [] => (false, [])
  | c :: r => if c = 45 then (true, r) else (false, c :: r)
def expo : List UInt8 → Option Int
  | [] => some 0
  | c :: r => if c ≠ 112 then none else
    if (minus r).2.length < 1 ∨ 6 < (minus r).2.length ∨ digN (minus r).2 < (minus r).2.length ∨ (minus r).2.headD 0 = 48 then none
    else some (if (minus r).1 = true then -(dv (minus r).2 : Int) else (dv (minus r).2 : Int))
def form (s : List UInt8) : Option (Bool × Nat × Int) :=
  if digN (minus s).2 < 1 ∨ 1300 < digN (minus s).2 ∨ ((minus s).2.headD 0 = 48 ∧ ((minus s).1 = true ∨ 1 < (minus s).2.length)) then none
  else match expo ((minus s).2.drop (digN (minus s).2)) with
    | none => none
    | some e => some ((minus s).1, dv ((minus s).2.take (digN (minus s).2)), e)
theorem minus_dig (l : List UInt8) (h : allD l) (r : List UInt8) (hl : l ≠ []) : minus (l ++ r) = (false, l ++ r) := by
  cases l with
  | nil => exact absurd rfl hl
  | cons c l =>
    have h1 := h c (by simp)
    have h2 : c ≠ 45 := by
      rintro rfl
      have : (45 : UInt8).toNat = 45 := rfl
      omega
    simp [minus, h2]
def expT (e : Int) : List UInt8 := if e = 0 then [] else 112 :: (if e < 0 then 45 :: dec e.natAbs else dec e.natAbs)
theorem expo_expT (e : Int) (h : -65536 ≤ e) (h2 : e ≤ 65536) : expo (expT e) = some e := by
  unfold expT
  by_cases h0 : e = 0
  · rw [if_pos h0, h0]; rfl
  · rw [if_neg h0]
    have hna : e.natAbs ≠ 0 := by omega
    have hl1 := dec_len_pos e.natAbs
    have hl2 := dec_len 6 e.natAbs (by have : (10 : Nat) ^ 6 = 1000000 := rfl; omega) (by decide)
    have hd := digN_app (dec e.natAbs) [] (dec_all _)
    rw [List.append_nil] at hd
    simp only [digN, Nat.add_zero] at hd
    have hh := dec_head e.natAbs hna
    by_cases hneg : e < 0
    · rw [if_pos hneg]
      have hm : minus (45 :: dec e.natAbs) = (true, dec e.natAbs) := rfl
      rw [expo, if_neg (by simp), hm]
      simp only
      rw [if_neg (by rintro (h | h | h | h) <;> first | omega | exact hh h), if_pos trivial, dv_dec]
      congr 1; omega
    · rw [if_neg hneg]
      have hm : minus (dec e.natAbs) = (false, dec e.natAbs) := by
        have := minus_dig (dec e.natAbs) (dec_all _) [] (fun e' => by rw [e'] at hl1; simp at hl1)
        rwa [List.append_nil] at this
      rw [expo, if_neg (by simp), hm]
      simp only
      rw [if_neg (by rintro (h | h | h | h) <;> first | omega | exact hh h), if_neg (by simp), dv_dec]
      congr 1; omega
theorem expT_stop (e : Int) : digN (expT e) = 0 := by
  unfold expT
  split
  · rfl
  · rw [digN, if_neg]; decide
def textN (neg : Bool) (v : Nat) (e : Int) : List UInt8 := (if neg = true then [45] else []) ++ (dec v ++ expT e)
theorem form_text (neg : Bool) (v : Nat) (e : Int) (h : -65536 ≤ e) (h2 : e ≤ 65536) (hv : v < 10 ^ 1300) (h0 : v = 0 → neg = false ∧ e = 0) : form (textN neg v e) = some (neg, v, e) := by
  have hl1 := dec_len_pos v
  have hl2 := dec_len 1300 v hv (by decide)
  have hne : dec v ≠ [] := fun e' => by rw [e'] at hl1; simp at hl1
  have hm : minus (textN neg v e) = (neg, dec v ++ expT e) := by
    cases neg
    · exact minus_dig (dec v) (dec_all v) (expT e) hne
    · rfl
  have hd := digN_app (dec v) (expT e) (dec_all v)
  rw [expT_stop, Nat.add_zero] at hd
  unfold form
  rw [hm]
  simp only
  rw [hd, List.drop_left, List.take_left, expo_expT e h h2, dv_dec, if_neg]
  rintro (h3 | h3 | ⟨h3, h4⟩)
  · omega
  · omega
  · have hh : (dec v ++ expT e).headD 0 = (dec v).headD 0 := by
      cases hc : dec v with
      | nil => exact absurd hc hne
      | cons x r => rfl
    rw [hh] at h3
    by_cases hv0 : v = 0
    · obtain ⟨h5, h6⟩ := h0 hv0
      subst hv0; subst h6
      rcases h4 with h4 | h4
      · rw [h5] at h4; cases h4
      · rw [dec_low (by decide)] at h4; simp [expT] at h4
    · exact dec_head v hv0 h3
end DecM
end Go.Proofs.YtdilmfakkppgpaaGreatDoor
namespace Go.Proofs.YtdilmfakkppgpaaGreatDoor
open Go.RowKit WordsM
def isDig (b : UInt8) : Prop := 48 ≤ b.toNat ∧ b.toNat ≤ 57
def IsRun (s : ByteArray) (k : Nat) : Prop := k ≤ s.size ∧ (∀ j (h : j < s.size), j < k → isDig (s[j]'h)) ∧ ∀ h : k < s.size, ¬ isDig (s[k]'h)
set_option maxRecDepth 100000 in
theorem run_any (s : ByteArray) (w : World) (hs : s.size ≤ 281474976710656) :
    Calls Tryz.prog 234 #[.string s] w fun e w' => (∃ k : Nat, e = .returned (.int .i64 (k : Int)) ∧ IsRun s k) ∧ Below w.heap.size w w' := by
  go_enter Tryz.func234, Tryz.ntmps234
  go_wp2_with fail
  go_step3
  go_wp2_with fail
  go_step3
  go_wp2_with fail
  go_loopw [3] (fun v wr => ∃ k : Nat, v = .int .i64 (k : Int) ∧ k ≤ s.size ∧ (∀ j (h : j < s.size), j < k → isDig (s[j]'h)) ∧ Below w.heap.size w wr) (fun v _ => s.size - (intOf v).toNat)
  case atStart => exact ⟨0, rfl, Nat.zero_le _, fun j _ h => absurd h (Nat.not_lt_zero _), Below.refl _ _⟩
  case round =>
    obtain ⟨k, rfl, hk, hpre, hb⟩ := hrel
    have HP := Lib.hid (And.intro hpre hb)
    clear hpre hb
    by_cases hlt : k < s.size
    · have hlt' : (k : Int) < (s.size : Int) := by omega
      by_cases h1 : (s[k]'hlt).toNat < 48
      · have h1' : ((s[k]'hlt).toNat : Int) < 48 := by omega
        go_wp2_with fail
        first | rw [Exit.noGoto_ret] | skip
        go_ret
        exact ⟨⟨k, rfl, hk, HP.out.1, fun _ h => by have := h.1; omega⟩, HP.out.2⟩
      · have h1' : ¬ ((s[k]'hlt).toNat : Int) < 48 := by omega
        by_cases h2 : 57 < (s[k]'hlt).toNat
        · have h2' : 57 < ((s[k]'hlt).toNat : Int) := by omega
          go_wp2_with fail
          first | rw [Exit.noGoto_ret] | skip
          go_ret
          exact ⟨⟨k, rfl, hk, HP.out.1, fun _ h => by have := h.2; omega⟩, HP.out.2⟩
        · have h2' : ¬ 57 < ((s[k]'hlt).toNat : Int) := by omega
          go_wp2_with fail
          refine ⟨⟨k + 1, by simp, by omega, fun j h hj => ?_, HP.out.2⟩, by simp only [intOf]; omega⟩
          by_cases hjk : j = k
          · subst hjk; exact ⟨by omega, by omega⟩
          · exact HP.out.1 j h (by omega)
    · obtain rfl : k = s.size := by omega
      have hlt' : ¬ ((s.size : Int) < (s.size : Int)) := by omega
      go_wp2_with fail
      first | rw [Exit.noGoto_ret] | skip
      go_ret
      exact ⟨⟨s.size, rfl, hk, HP.out.1, fun h => absurd h hlt⟩, HP.out.2⟩
end Go.Proofs.YtdilmfakkppgpaaGreatDoor
namespace Go.Proofs.YtdilmfakkppgpaaGreatDoor
open Go.RowKit WordsM DecM
theorem bytes_at (s : ByteArray) (j : Nat) (h : j < s.size) : s.data.toList[j]? = some (s[j]'h) := by
  rw [Array.getElem?_toList]
  exact Array.getElem?_eq_getElem h
theorem run_digN {s : ByteArray} {at_ k : Nat} (h1 : at_ ≤ k) (h2 : k ≤ s.size) (hd : ∀ j (h : j < s.size), at_ ≤ j → j < k → isDig (s[j]'h)) (hs : ∀ h : k < s.size, ¬ isDig (s[k]'h)) : digN (s.data.toList.drop at_) = k - at_ := by
  have hl : s.data.toList.length = s.size := rfl
  apply digN_spec
  · rw [List.length_drop, hl]; omega
  · intro j c hc hj
    rw [List.getElem?_drop] at hc
    have hjs : at_ + j < s.size := by omega
    rw [bytes_at s _ hjs] at hc
    injection hc with hc
    subst hc
    exact hd _ hjs (by omega) (by omega)
  · intro c hc
    rw [List.getElem?_drop, show at_ + (k - at_) = k by omega] at hc
    have hks : k < s.size := by
      rw [← hl]; exact (List.getElem?_eq_some_iff.1 hc).1
    rw [bytes_at s _ hks] at hc
    injection hc with hc
    subst hc
    exact hs hks
theorem head_at {s : ByteArray} {at_ : Nat} (h : at_ < s.size) : (s.data.toList.drop at_).headD 0 = s[at_]'h := by
  have h1 := bytes_at s at_ h
  rw [← List.head?_drop] at h1
  rw [List.headD_eq_head?_getD, h1]; rfl
end Go.Proofs.YtdilmfakkppgpaaGreatDoor
namespace Go.Proofs.YtdilmfakkppgpaaGreatDoor
open Go Go.RowKit
section
variable {P : Program} {ops : Array Oper}
def slotOf (ops : Array Oper) (a : Act) (j : Nat) : Value := match (ops[j]?).bind (·.dst) with | some t => a.tmps.getD t undef | none => undef
def Agree (ops : Array Oper) (a0 a : Act) : Prop := a.defers = a0.defers ∧ a.tmps.size = a0.tmps.size ∧ ∀ t, (∀ o ∈ ops.toList, o.dst ≠ some t) → a.tmps[t]? = a0.tmps[t]?
def depsOf (o : Oper) : List Nat := (o.after.toList.filter (Region.binds .any)).map (·.on)
def putAll (vs : Nat → Value) : List Oper → Nat → Act → Act
  | [], _, a => a
  | o :: r, k, a => putAll vs r (k + 1) (a.put o.dst (vs k))
theorem put_tmps (a : Act) (t : Tmp) (v : Value) : (a.put (some t) v).tmps = a.tmps.setIfInBounds t v := rfl
theorem count_set_true : ∀ (l : List Bool) (i : Nat), l[i]? = some false → (l.set i true).count false + 1 = l.count false
  | b :: r, 0, h => by
    simp only [List.getElem?_cons_zero, Option.some.injEq] at h
    subst h
    simp
  | b :: r, i + 1, h => by
    have ih := count_set_true r i (by simpa using h)
    simp only [List.set_cons_succ, List.count_cons]
    omega
theorem all_of_count : ∀ (l : List Bool), l.count false = 0 → ∀ (i : Nat), i < l.length → l[i]? = some true := by
  intro l h i hi
  have hne : l[i]? = some l[i] := List.getElem?_eq_getElem hi
  cases hb : l[i] with
  | true => rw [hne, hb]
  | false =>
    have : false ∈ l := by rw [← hb]; exact List.getElem_mem hi
    rw [List.count_eq_zero] at h
    exact absurd this h
variable {F : Fence} {n : Nat} {Q : Exit → Act → World → Prop}
theorem evalD {a : Act} {t : Tmp} {v : Value} (h : a.eval (.tmp t) = v) : a.tmps[t]?.getD undef = v := by
  have h' : a.tmps.getD t undef = v := h
  rwa [Array.getD_eq_getD_getElem?] at h'
def detV (cs : List Value) (L : Nat → Option (Value → World → Prop)) (i : Nat) (v : Value) (w : World) : Prop := match L i with | some φ => φ v w | none => v = cs.getD i undef
theorem detV_at {cs : List Value} {L : Nat → Option (Value → World → Prop)} {i : Nat} {v : Value} {w : World} (h : L i = none) : detV cs L i v w ↔ v = cs.getD i undef := by unfold detV; rw [h]
theorem detV_some {cs : List Value} {L : Nat → Option (Value → World → Prop)} {i : Nat} {φ : Value → World → Prop} {v : Value} {w : World} (h : L i = some φ) : detV cs L i v w ↔ φ v w := by unfold detV; rw [h]
theorem Agree.keep {a0 a : Act} (h : Agree ops a0 a) {t : Tmp} {v : Value} (ht : (ops.toList.all fun o => !(o.dst == some t)) = true) (hv : a0.tmps.getD t undef = v) : a.eval (.tmp t) = v := by
  show a.tmps.getD t undef = v
  rw [Array.getD_eq_getD_getElem?, h.2.2 t ?_, ← Array.getD_eq_getD_getElem?, hv]
  intro o ho e
  have := List.all_eq_true.1 ht o ho
  rw [e] at this
  simp at this
end
end Go.Proofs.YtdilmfakkppgpaaGreatDoor
namespace Go.Proofs.YtdilmfakkppgpaaGreatDoor
open Go.RowKit WordsM DecM
theorem val_one (B m : Nat) : val B [m] = m := by simp [val]
theorem step_call {P : Program} {ops : Array Oper} {o : Oper} {a : Act} {w : World} {K : Act → World → Prop} {Q : Exit → Act → World → Prop} {E : Prop} (hgd : o.guard = none) (f : FuncId) (args : Array Value)
    (hrun : (execOp a.eval o).run P w = .ok (.enter f args) w) (h : Calls P f args w fun e w' => ∃ v, e = .returned v ∧ K (a.put o.dst v) w') : if Region.wanted o (yielded ops a.tmps) = true then Oper.wp P o a w K Q else E := by
  rw [if_pos (by simp [Region.wanted, hgd])]
  unfold Oper.wp
  rw [hrun, Oper.upon_enter]
  exact h.mono (by rintro e w' ⟨v, rfl, hk⟩; exact hk)
theorem below_dr {B : Nat} {w W : World} (h : Below B w W) : Below B w W.drew := ⟨h.os, h.tape, h.output, h.size, h.block⟩
end Go.Proofs.YtdilmfakkppgpaaGreatDoor
namespace Go.Proofs.YtdilmfakkppgpaaGreatDoor
open Go.RowKit WordsM DecM
theorem words_one (w : World) (m : Nat) (hm : m < 18446744073709551616) (T : TypeId) : WordsIn (w.alloc (.cells #[.int .u64 (m : Int)] T)) (some ⟨w.heap.size, 0, none⟩) 1 1 [m] :=
  ⟨rfl, Nat.le_refl _, by omega, fun x hx => by rw [List.mem_singleton] at hx; subst hx; exact hm, .inr ⟨w.heap.size, 0, rfl, box_lt _ _, fun j x hx => by
    cases j with
    | zero => simp only [List.getElem?_cons_zero, Option.some.injEq] at hx; subst hx; rw [cell_of_row _ _ _ _ _ _ (heap_alloc_new _ _)]; rfl
    | succ j => simp at hx⟩⟩
def textOut (neg : Bool) (exp : Int) (ls : List Nat) : List UInt8 := if IsNum neg exp ls then textN neg (val (2 ^ 64) ls) exp else []
theorem IsNum.exp {neg : Bool} {exp : Int} {ls : List Nat} (h : IsNum neg exp ls) : -65536 ≤ exp ∧ exp ≤ 65536 ∧ ls.length ≤ 64 := by
  unfold IsNum at h
  split at h
  · rename_i h0
    rw [h0, h.2]; simp
  · exact ⟨h.2.2.2.1, h.2.2.2.2, h.2.1⟩
theorem dec_words {w : World} {a : Option Addr} {n c : Nat} {ls : List Nat} (h : WordsIn w a n c ls) (hn : n ≤ 64) : (dec (val (2 ^ 64) ls)).length ≤ 1281 := by
  have h1 := NatM.dec_val_len (NatM.halves_small h.low)
  rw [halves_val, NatM.halves_len, h.len] at h1
  exact Nat.le_trans h1 (by omega)
end Go.Proofs.YtdilmfakkppgpaaGreatDoor
namespace Go.Proofs.YtdilmfakkppgpaaGreatDoor
open Go.RowKit WordsM
theorem left_step {B : Nat} {L A : List Nat} {k i s x y lo hi : Nat} (hL : val B L = val B (A.take i) * (B ^ k * 2 ^ s)) (hx : A[i]? = some x) (hy : L[k + i]? = some y) (h0 : L[k + i + 1]? = some 0)
    (hp : x * 2 ^ s = lo + B * hi) : val B ((L.set (k + i) (y + lo)).set (k + i + 1) hi) = val B (A.take (i + 1)) * (B ^ k * 2 ^ s) := by
  have h1 := val_set (B := B) L (k + i) (y + lo) y hy
  have h2 := val_set (B := B) (L.set (k + i) (y + lo)) (k + i + 1) hi 0 (by rw [List.getElem?_set_ne (by omega)]; exact h0)
  rw [val_take_snoc A i x hx, Nat.add_mul, ← hL]
  have e1 : B ^ i * x * (B ^ k * 2 ^ s) = lo * B ^ (k + i) + hi * B ^ (k + i + 1) := by
    have e2 : B ^ i * x * (B ^ k * 2 ^ s) = (x * 2 ^ s) * B ^ (k + i) := by
      rw [Nat.pow_add, Nat.mul_comm (B ^ i) x, Nat.mul_assoc x, ← Nat.mul_assoc (B ^ i), Nat.mul_comm (B ^ i), Nat.mul_assoc (B ^ k), Nat.mul_comm (B ^ i), ← Nat.mul_assoc (B ^ k), Nat.mul_comm (B ^ k) (2 ^ s), Nat.mul_assoc (2 ^ s), ← Nat.mul_assoc x]
    rw [e2, hp, Nat.add_mul, Nat.pow_succ, Nat.mul_comm B hi, Nat.mul_assoc hi, Nat.mul_comm B]
  rw [Nat.add_mul] at h1
  omega
end Go.Proofs.YtdilmfakkppgpaaGreatDoor
