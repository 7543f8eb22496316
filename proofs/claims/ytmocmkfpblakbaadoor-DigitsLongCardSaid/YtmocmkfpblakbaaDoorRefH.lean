/- The walks of the document's Odd and Num (a value's right number). Condition: the digits lie as right digits, not too long; the exponent is not too large. -/
/- The walk of the document's Num (a value's right number) and Make. Condition: the digits lie as right digits, not too long. -/
import Derived.Test.YtmocmkfpblakbaaDoorRefF
import Derived.Test.YtmocmkfpblakbaaDoorBox3
import Derived.Test.YtmocmkfpblakbaaDoorNumA
namespace Go.Proofs.YtmocmkfpblakbaaDoor
open Go.RowKit WordsM

/-- what Odd gives: sign, digits' value, exponent -/
def OddOut (neg : Bool) (v : Nat) (e : Int) (neg' : Bool) (v' : Nat) (e' : Int) : Prop := (v = 0 ∧ neg' = false ∧ v' = 0 ∧ e' = 0) ∨ ∃ z : Nat, IsTz v z ∧ neg' = neg ∧ v' = v / 2 ^ z ∧ e' = e + z
theorem dig_len_mono {B u v : Nat} (hB : 2 ≤ B) (h : u ≤ v) : (dig B u).length ≤ (dig B v).length := by
  refine dig_len_le hB (Nat.lt_of_le_of_lt h ?_)
  have h1 := val_lt (B := B) (by omega) (dig B v) (dig_low hB v)
  rwa [val_dig hB] at h1
theorem DigIn.nil_ (w : World) : DigIn w none 0 0 0 := ⟨rfl, Nat.le_refl _, by omega, .inl rfl⟩
set_option maxRecDepth 100000 in
set_option maxHeartbeats 4000000 in
theorem refodd_any (neg : Bool) (a : Option Addr) (n c : Nat) (v : Nat) (e : Int) (w : World) (h : DigIn w a n c v) (hn : n ≤ 1000000) (he : -1000000000 ≤ e) (he2 : e ≤ 1000000000) :
    Calls Tryd.prog 20 #[.bool neg, .slice a n c, .int .i64 e] w fun r w' => ∃ neg' a' n' c' v' e', r = .returned (.agg #[.bool neg', .slice a' n' c', .int .i64 e']) ∧ OddOut neg v e neg' v' e' ∧ DigIn w' a' n' c' v' ∧ n' ≤ n ∧ -1000000000 ≤ e' ∧ e' ≤ 1000000000 + 32 * n ∧ Below w.heap.size w w' := by
  have hB0 : ∀ o, Below w.heap.size w (w.alloc o) := fun o => (Below.refl _ _).alloc (Nat.le_refl _) _
  have hN := NumBox.new w (.bool false) (.slice none 0 0) (.int .i64 0) 34
  have hl0 := box_lt w (.cells #[.bool false, .slice none 0 0, .int .i64 0] 34)
  by_cases h0 : v = 0
  · have hn0 : n = 0 := by have := h.len; rw [h0, dig_zero] at this; exact this.symm
    subst hn0
    have HS := Lib.hid (And.intro hN (hB0 (.cells #[.bool false, .slice none 0 0, .int .i64 0] 34)))
    have hc0 := hN.c0
    have hc1 := hN.c1
    have hc2 := hN.c2
    have hf0 := hN.f0
    have hf1 := hN.f1
    have hf2 := hN.f2
    have hd1 := hN.d1 (.bool false)
    have hd2 := hN.d2 (.bool false) (.slice none 0 0)
    clear hN hB0 h
    go_enter Tryd.func20, Tryd.ntmps20
    go_wp2_with fail
    have k0 := HS.out.1.c0
    have k1 := HS.out.1.c1
    have k2 := HS.out.1.c2
    have hb3 := HS.out.2
    clear HS hd1 hd2 hc0 hc1 hc2 hf0 hf1 hf2
    generalize w.alloc _ = W3 at k0 k1 k2 hb3 ⊢
    refine ⟨rfl, .agg #[.bool false, .slice none 0 0, .int .i64 0], by simp [results, go_sem, k0, k1, k2], false, none, 0, 0, 0, 0, rfl, .inl ⟨h0, rfl, rfl, rfl⟩, DigIn.nil_ _, Nat.le_refl _, by omega, by omega, hb3⟩
  · have hn0 : n ≠ 0 := fun e => h0 ((dig_nil (B := 2 ^ 32) (by decide)).1 (List.length_eq_zero_iff.1 (by rw [h.len, e])))
    have hn0' : ((n : Int) == 0) = false := by rw [beq_eq_false_iff_ne]; omega
    have hz := fun W (hb : Below w.heap.size w W) => refzeros_any a n c v W (h.step hb) hn h0
    have hd := fun W (hb : Below w.heap.size w W) z hz => refdown_any a n c v z W (h.step hb) hn hz
    have HZ := Lib.hid (And.intro hz hd)
    have HN := Lib.hid (And.intro hN (And.intro h0 h.len))
    clear hz hd hN h h0
    go_enter Tryd.func20, Tryd.ntmps20
    go_wp2_with (first
      | (go_at_call_of 34 a; refine (HZ.out.1 _ (hB0 _)).mono ?_; rintro r w1 ⟨⟨z, rfl, hz1, hz2⟩, hb1⟩; have HB1 := Lib.hid (And.intro hz1 (And.intro hb1 hz2)); clear hb1 hz1)
      | (refine (HZ.out.2 _ (Below.next0 (hB0 _) HB1.out.2.1) z (by omega)).mono ?_; rintro r w2 ⟨a2, n2, c2, lb, rfl, hD2, hb2⟩; have hNN := (HN.out.1.step HB1.out.2.1 hl0).step hb2 (Nat.lt_of_lt_of_le hl0 HB1.out.2.1.size);
         have hc0 := hNN.c0; have hc1 := hNN.c1; have hc2 := hNN.c2; have hf0 := hNN.f0; have hf1 := hNN.f1; have hf2 := hNN.f2; have hd1 := hNN.d1 (.bool neg); have hd2 := hNN.d2 (.bool neg) (.slice a2 n2 c2);
         have HB2 := Lib.hid (And.intro hNN (And.intro hD2 hb2)); clear hNN hb2 hD2))
    have hS := HB2.out.1.store (.bool neg) (.slice a2 n2 c2) (.int .i64 (e + (z : Int)))
    have k0 := hS.c0
    have k1 := hS.c1
    have k2 := hS.c2
    have hb3 := NumBox.below (Below.next0 (Below.next0 (hB0 _) HB1.out.2.1) HB2.out.2.2) (Nat.le_refl _) (.bool neg) (.slice a2 n2 c2) (.int .i64 (e + (z : Int)))
    have hD := HB2.out.2.1
    have hD3 : DigIn _ a2 n2 c2 (v / 2 ^ z) := ⟨hD.len, hD.cap, hD.most, (hD.rd.store3 HB2.out.1 (fun _ => by simp [nv]) (fun _ => by simp [nv]) (fun _ => by simp [nv]) (.bool neg) (.slice a2 n2 c2) (.int .i64 (e + (z : Int)))).more (box_size _ _ _ _ _)⟩
    clear hc0 hc1 hc2 hf0 hf1 hf2 hd1 hd2 hS hD
    have hn2 : n2 ≤ n := by
      rw [← hD3.len, ← HN.out.2.2]
      exact dig_len_mono (by decide) (Nat.div_le_self _ _)
    generalize World.setCell _ _ _ = W3 at k0 k1 k2 hb3 hD3 ⊢
    refine ⟨rfl, .agg #[.bool neg, .slice a2 n2 c2, .int .i64 (e + (z : Int))], by simp [results, go_sem, k0, k1, k2], neg, a2, n2, c2, v / 2 ^ z, e + (z : Int), rfl, .inr ⟨z, HB1.out.1, rfl, rfl, rfl⟩, hD3, hn2, by omega, by omega, hb3⟩
end Go.Proofs.YtmocmkfpblakbaaDoor
namespace Go.Proofs.YtmocmkfpblakbaaDoor
open Go.RowKit WordsM

/-- does a value fit into a number? -/
def Fit (v : Nat) (e : Int) : Prop := (dig (2 ^ 64) v).length ≤ 64 ∧ -65536 ≤ e ∧ e ≤ 65536
/-- what a value's Num gives: sign, exponent, words, error -/
def ValNum (neg : Bool) (v : Nat) (e : Int) (neg' : Bool) (e' : Int) (L : List Nat) (er : Int) : Prop :=
  (v = 0 ∧ neg' = false ∧ e' = 0 ∧ L = [] ∧ er = 0) ∨ (v ≠ 0 ∧ ¬ Fit v e ∧ neg' = false ∧ e' = 0 ∧ L = [] ∧ er = 2) ∨ (v ≠ 0 ∧ Fit v e ∧ neg' = neg ∧ e' = e ∧ L = dig (2 ^ 64) v ∧ er = 0)
theorem WordsIn.nil_ (w : World) : WordsIn w none 0 0 [] := ⟨rfl, Nat.le_refl _, by omega, fun x hx => by simp at hx, .inl rfl⟩
set_option maxRecDepth 100000 in
set_option maxHeartbeats 4000000 in
theorem refnum_any (neg : Bool) (a : Option Addr) (n c : Nat) (v : Nat) (e : Int) (w : World) (h : DigIn w a n c v) (hn : n ≤ 1000000) :
    Calls Tryd.prog 8 #[.agg #[.bool neg, .slice a n c, .int .i64 e]] w fun r w' => ∃ neg' e' a' n' c' L er, r = .returned (.tuple #[.agg #[.bool neg', .int .i64 e', .slice a' n' c'], .int .i64 er]) ∧ ValNum neg v e neg' e' L er ∧ WordsIn w' a' n' c' L ∧ Below w.heap.size w w' := by
  obtain ⟨W0, hW0⟩ : ∃ W0, (w.alloc (.cells #[.bool neg, .slice a n c, .int .i64 e] 34)).alloc (.cells #[.bool false, .int .i64 0, .slice none 0 0] 28) = W0 := ⟨_, rfl⟩
  have hsz : (w.alloc (.cells #[.bool neg, .slice a n c, .int .i64 e] 34)).heap.size = w.heap.size + 1 := World.size_alloc _ _
  have hb0 : Below w.heap.size w W0 := by rw [← hW0]; exact Below.next0 ((Below.refl _ _).alloc (Nat.le_refl _) _) ((Below.refl _ _).alloc (Nat.le_refl _) _)
  have hV : NumBox W0 w.heap.size (.bool neg) (.slice a n c) (.int .i64 e) := by
    rw [← hW0]
    exact (NumBox.new w _ _ _ 34).step ((Below.refl _ _).alloc (Nat.le_refl _) _) (box_lt _ _)
  have hN : NumBox W0 (w.heap.size + 1) (.bool false) (.int .i64 0) (.slice none 0 0) := by
    rw [← hW0, ← hsz]
    exact NumBox.new _ _ _ _ _
  have hl0 : w.heap.size + 1 < W0.heap.size := by
    have h1 := box_lt (w.alloc (.cells #[.bool neg, .slice a n c, .int .i64 e] 34)) (.cells #[.bool false, .int .i64 0, .slice none 0 0] 28)
    rw [hW0, hsz] at h1
    exact h1
  by_cases h0 : v = 0
  · have hn0 : n = 0 := by have := h.len; rw [h0, dig_zero] at this; exact this.symm
    subst hn0
    have HS := Lib.hid (And.intro (hN.store (.bool false) (.int .i64 0) (.slice none 0 0)) (NumBox.below hb0 (Nat.le_succ _) (b := w.heap.size + 1) (.bool false) (.int .i64 0) (.slice none 0 0)))
    have hv1 := hV.c1
    have hc0 := hN.c0
    have hc1 := hN.c1
    have hc2 := hN.c2
    have hf0 := hN.f0
    have hf1 := hN.f1
    have hf2 := hN.f2
    have hd1 := hN.d1 (.bool false)
    have hd2 := hN.d2 (.bool false) (.int .i64 0)
    have HW := Lib.hid hW0
    clear hN hV hb0 h hW0
    go_enter Tryd.func8, Tryd.ntmps8
    go_upto_region 1 with fail
    rw [HW.out]
    go_wp2_with fail
    have k0 := HS.out.1.c0
    have k1 := HS.out.1.c1
    have k2 := HS.out.1.c2
    have hb3 := HS.out.2
    clear HS hc0 hc1 hc2 hf0 hf1 hf2 hd1 hd2
    generalize World.setCell _ _ _ = W3 at k0 k1 k2 hb3 ⊢
    refine ⟨rfl, .tuple #[.agg #[.bool false, .int .i64 0, .slice none 0 0], .int .i64 0], by simp [results, go_sem, k0, k1, k2], false, 0, none, 0, 0, [], 0, rfl, .inl ⟨h0, rfl, rfl, rfl, rfl⟩, WordsIn.nil_ _, hb3⟩
  · have hn0 : n ≠ 0 := fun e => h0 ((dig_nil (B := 2 ^ 32) (by decide)).1 (List.length_eq_zero_iff.1 (by rw [h.len, e])))
    have hn0' : ((n : Int) == 0) = false := by rw [beq_eq_false_iff_ne]; omega
    have hw := refwords_any a n c v W0 ⟨h.len, h.cap, h.most, (h.rd.below hb0).more hb0.size⟩ hn
    have HW := Lib.hid (And.intro hW0 hw)
    have HN := Lib.hid (And.intro hV (And.intro hN (And.intro hl0 (And.intro h0 hb0))))
    have hv1 := hV.c1
    clear hw hW0 hV hN h h0 hb0
    by_cases hlen : (dig (2 ^ 64) v).length ≤ 64
    · have hlenI : ((dig (2 ^ 64) v).length : Int) ≤ 64 := by omega
      by_cases hlo : e < -65536
      · have hfit : ¬ Fit v e := fun h => by have := h.2.1; omega
        have HF := Lib.hid hfit
        clear hfit
        obtain ⟨N, hNl⟩ : ∃ N, (dig (2 ^ 64) v).length = N := ⟨_, rfl⟩
        rw [hNl] at hlen hlenI
        go_enter Tryd.func8, Tryd.ntmps8
        go_upto_region 1 with fail
        rw [HW.out.1]
        go_wp2_with (refine HW.out.2.mono ?_; rintro r w1 ⟨a2, n2, c2, rfl, hW1, hb1⟩; have hn2 : N = n2 := by { rw [← hNl]; exact hW1.len }; subst hn2;
                     have hV1 := HN.out.1.step hb1 (Nat.lt_of_succ_lt HN.out.2.2.1);
                     have hN1 := HN.out.2.1.step hb1 HN.out.2.2.1;
                     have hc0 := hN1.c0; have hc1 := hN1.c1; have hc2 := hN1.c2; have hf0 := hN1.f0; have hf1 := hN1.f1; have hf2 := hN1.f2; have hd1 := hN1.d1 (.bool false); have hd2 := hN1.d2 (.bool false) (.int .i64 0);
                     have hg0 := hV1.c0; have hg1 := hV1.c1; have hg2 := hV1.c2;
                     have HB1 := Lib.hid (And.intro hN1 (And.intro (Below.next0 HN.out.2.2.2.2 hb1) hW1)); clear hN1 hV1 hb1 hW1)
        have hS := HB1.out.1.store (.bool false) (.int .i64 0) (.slice none 0 0)
        have k0 := hS.c0
        have k1 := hS.c1
        have k2 := hS.c2
        have hb5 := NumBox.below HB1.out.2.1 (Nat.le_succ _) (b := w.heap.size + 1) (.bool false) (.int .i64 0) (.slice none 0 0)
        have hW5 : WordsIn _ a2 N c2 (dig (2 ^ 64) v) := ⟨HB1.out.2.2.len, HB1.out.2.2.cap, HB1.out.2.2.most, HB1.out.2.2.low, (HB1.out.2.2.rd.store3 HB1.out.1 (fun _ => by simp [nv]) (fun _ => by simp [nv]) (fun _ => by simp [nv]) (.bool false) (.int .i64 0) (.slice none 0 0)).more (box_size _ _ _ _ _)⟩
        clear hS hc0 hc1 hc2 hf0 hf1 hf2 hd1 hd2 hg0 hg1 hg2
        generalize World.setCell _ _ _ = W5 at k0 k1 k2 hb5 hW5 ⊢
        refine ⟨rfl, .tuple #[.agg #[.bool false, .int .i64 0, .slice none 0 0], .int .i64 2], by simp [results, go_sem, k0, k1, k2], false, 0, none, 0, 0, [], 2, rfl, .inr (.inl ⟨HN.out.2.2.2.1, HF.out, rfl, rfl, rfl, rfl⟩), WordsIn.nil_ _, hb5⟩
      · by_cases hhi : 65536 < e
        · have hfit : ¬ Fit v e := fun h => by have := h.2.2; omega
          have HF := Lib.hid hfit
          clear hfit
          obtain ⟨N, hNl⟩ : ∃ N, (dig (2 ^ 64) v).length = N := ⟨_, rfl⟩
          rw [hNl] at hlen hlenI
          go_enter Tryd.func8, Tryd.ntmps8
          go_upto_region 1 with fail
          rw [HW.out.1]
          go_wp2_with (refine HW.out.2.mono ?_; rintro r w1 ⟨a2, n2, c2, rfl, hW1, hb1⟩; have hn2 : N = n2 := by { rw [← hNl]; exact hW1.len }; subst hn2;
                       have hV1 := HN.out.1.step hb1 (Nat.lt_of_succ_lt HN.out.2.2.1);
                       have hN1 := HN.out.2.1.step hb1 HN.out.2.2.1;
                       have hc0 := hN1.c0; have hc1 := hN1.c1; have hc2 := hN1.c2; have hf0 := hN1.f0; have hf1 := hN1.f1; have hf2 := hN1.f2; have hd1 := hN1.d1 (.bool false); have hd2 := hN1.d2 (.bool false) (.int .i64 0);
                       have hg0 := hV1.c0; have hg1 := hV1.c1; have hg2 := hV1.c2;
                       have HB1 := Lib.hid (And.intro hN1 (And.intro (Below.next0 HN.out.2.2.2.2 hb1) hW1)); clear hN1 hV1 hb1 hW1)
          have hS := HB1.out.1.store (.bool false) (.int .i64 0) (.slice none 0 0)
          have k0 := hS.c0
          have k1 := hS.c1
          have k2 := hS.c2
          have hb5 := NumBox.below HB1.out.2.1 (Nat.le_succ _) (b := w.heap.size + 1) (.bool false) (.int .i64 0) (.slice none 0 0)
          have hW5 : WordsIn _ a2 N c2 (dig (2 ^ 64) v) := ⟨HB1.out.2.2.len, HB1.out.2.2.cap, HB1.out.2.2.most, HB1.out.2.2.low, (HB1.out.2.2.rd.store3 HB1.out.1 (fun _ => by simp [nv]) (fun _ => by simp [nv]) (fun _ => by simp [nv]) (.bool false) (.int .i64 0) (.slice none 0 0)).more (box_size _ _ _ _ _)⟩
          clear hS hc0 hc1 hc2 hf0 hf1 hf2 hd1 hd2 hg0 hg1 hg2
          generalize World.setCell _ _ _ = W5 at k0 k1 k2 hb5 hW5 ⊢
          refine ⟨rfl, .tuple #[.agg #[.bool false, .int .i64 0, .slice none 0 0], .int .i64 2], by simp [results, go_sem, k0, k1, k2], false, 0, none, 0, 0, [], 2, rfl, .inr (.inl ⟨HN.out.2.2.2.1, HF.out, rfl, rfl, rfl, rfl⟩), WordsIn.nil_ _, hb5⟩
        · have hfit : Fit v e := ⟨hlen, by omega, by omega⟩
          have HF := Lib.hid hfit
          clear hfit
          obtain ⟨N, hNl⟩ : ∃ N, (dig (2 ^ 64) v).length = N := ⟨_, rfl⟩
          rw [hNl] at hlen hlenI
          go_enter Tryd.func8, Tryd.ntmps8
          go_upto_region 1 with fail
          rw [HW.out.1]
          go_wp2_with (refine HW.out.2.mono ?_; rintro r w1 ⟨a2, n2, c2, rfl, hW1, hb1⟩; have hn2 : N = n2 := by { rw [← hNl]; exact hW1.len }; subst hn2;
                       have hV1 := HN.out.1.step hb1 (Nat.lt_of_succ_lt HN.out.2.2.1);
                       have hN1 := HN.out.2.1.step hb1 HN.out.2.2.1;
                       have hc0 := hN1.c0; have hc1 := hN1.c1; have hc2 := hN1.c2; have hf0 := hN1.f0; have hf1 := hN1.f1; have hf2 := hN1.f2; have hd1 := hN1.d1 (.bool neg); have hd2 := hN1.d2 (.bool neg) (.int .i64 e);
                       have hg0 := hV1.c0; have hg1 := hV1.c1; have hg2 := hV1.c2;
                       have HB1 := Lib.hid (And.intro hN1 (And.intro (Below.next0 HN.out.2.2.2.2 hb1) hW1)); clear hN1 hV1 hb1 hW1)
          have hS := HB1.out.1.store (.bool neg) (.int .i64 e) (.slice a2 N c2)
          have k0 := hS.c0
          have k1 := hS.c1
          have k2 := hS.c2
          have hb5 := NumBox.below HB1.out.2.1 (Nat.le_succ _) (b := w.heap.size + 1) (.bool neg) (.int .i64 e) (.slice a2 N c2)
          have hW5 : WordsIn _ a2 N c2 (dig (2 ^ 64) v) := ⟨HB1.out.2.2.len, HB1.out.2.2.cap, HB1.out.2.2.most, HB1.out.2.2.low, (HB1.out.2.2.rd.store3 HB1.out.1 (fun _ => by simp [nv]) (fun _ => by simp [nv]) (fun _ => by simp [nv]) (.bool neg) (.int .i64 e) (.slice a2 N c2)).more (box_size _ _ _ _ _)⟩
          clear hS hc0 hc1 hc2 hf0 hf1 hf2 hd1 hd2 hg0 hg1 hg2
          generalize World.setCell _ _ _ = W5 at k0 k1 k2 hb5 hW5 ⊢
          refine ⟨rfl, .tuple #[.agg #[.bool neg, .int .i64 e, .slice a2 N c2], .int .i64 0], by simp [results, go_sem, k0, k1, k2], neg, e, a2, N, c2, _, 0, rfl, .inr (.inr ⟨HN.out.2.2.2.1, HF.out, rfl, rfl, rfl, rfl⟩), hW5, hb5⟩
    · have hlenI : ¬ ((dig (2 ^ 64) v).length : Int) ≤ 64 := by omega
      have hfit : ¬ Fit v e := fun h => hlen h.1
      have HF := Lib.hid hfit
      clear hfit
      obtain ⟨N, hNl⟩ : ∃ N, (dig (2 ^ 64) v).length = N := ⟨_, rfl⟩
      rw [hNl] at hlen hlenI
      go_enter Tryd.func8, Tryd.ntmps8
      go_upto_region 1 with fail
      rw [HW.out.1]
      go_wp2_with (refine HW.out.2.mono ?_; rintro r w1 ⟨a2, n2, c2, rfl, hW1, hb1⟩; have hn2 : N = n2 := by { rw [← hNl]; exact hW1.len }; subst hn2;
                   have hV1 := HN.out.1.step hb1 (Nat.lt_of_succ_lt HN.out.2.2.1);
                   have hN1 := HN.out.2.1.step hb1 HN.out.2.2.1;
                   have hc0 := hN1.c0; have hc1 := hN1.c1; have hc2 := hN1.c2; have hf0 := hN1.f0; have hf1 := hN1.f1; have hf2 := hN1.f2; have hd1 := hN1.d1 (.bool false); have hd2 := hN1.d2 (.bool false) (.int .i64 0);
                   have hg0 := hV1.c0; have hg1 := hV1.c1; have hg2 := hV1.c2;
                   have HB1 := Lib.hid (And.intro hN1 (And.intro (Below.next0 HN.out.2.2.2.2 hb1) hW1)); clear hN1 hV1 hb1 hW1)
      have hS := HB1.out.1.store (.bool false) (.int .i64 0) (.slice none 0 0)
      have k0 := hS.c0
      have k1 := hS.c1
      have k2 := hS.c2
      have hb5 := NumBox.below HB1.out.2.1 (Nat.le_succ _) (b := w.heap.size + 1) (.bool false) (.int .i64 0) (.slice none 0 0)
      have hW5 : WordsIn _ a2 N c2 (dig (2 ^ 64) v) := ⟨HB1.out.2.2.len, HB1.out.2.2.cap, HB1.out.2.2.most, HB1.out.2.2.low, (HB1.out.2.2.rd.store3 HB1.out.1 (fun _ => by simp [nv]) (fun _ => by simp [nv]) (fun _ => by simp [nv]) (.bool false) (.int .i64 0) (.slice none 0 0)).more (box_size _ _ _ _ _)⟩
      clear hS hc0 hc1 hc2 hf0 hf1 hf2 hd1 hd2 hg0 hg1 hg2
      generalize World.setCell _ _ _ = W5 at k0 k1 k2 hb5 hW5 ⊢
      refine ⟨rfl, .tuple #[.agg #[.bool false, .int .i64 0, .slice none 0 0], .int .i64 2], by simp [results, go_sem, k0, k1, k2], false, 0, none, 0, 0, [], 2, rfl, .inr (.inl ⟨HN.out.2.2.2.1, HF.out, rfl, rfl, rfl, rfl⟩), WordsIn.nil_ _, hb5⟩
end Go.Proofs.YtmocmkfpblakbaaDoor
