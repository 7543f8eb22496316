/- The walk of the numbers' Make. Condition: the words lie as a slice of words; the library's table lies. -/
import Derived.Test.YtmocmkfpblakbaaDoorNumB
import Derived.Test.YtmocmkfpblakbaaDoorNatF
import Derived.Test.YtmocmkfpblakbaaDoorNatG
import Derived.Test.YtmocmkfpblakbaaDoorBox3
namespace Go.Proofs.YtmocmkfpblakbaaDoor
open Go.RowKit WordsM

/-- what Make gives: sign, exponent, words, error -/
def MakeOut (neg : Bool) (v : Nat) (exp : Int) (neg' : Bool) (exp' : Int) (L : List Nat) (er : Int) : Prop :=
  (v = 0 ∧ neg' = false ∧ exp' = 0 ∧ L = [] ∧ er = 0) ∨ ∃ z : Nat, IsTz v z ∧
    (((65536 < exp ∨ exp < -65536 - (z : Int) ∨ ¬ IsNum neg (exp + z) (dig (2 ^ 64) (v / 2 ^ z))) ∧ neg' = false ∧ exp' = 0 ∧ L = [] ∧ er = 2) ∨
     (exp ≤ 65536 ∧ -65536 - (z : Int) ≤ exp ∧ IsNum neg (exp + z) (dig (2 ^ 64) (v / 2 ^ z)) ∧ neg' = neg ∧ exp' = exp + z ∧ L = dig (2 ^ 64) (v / 2 ^ z) ∧ er = 0))
set_option maxRecDepth 100000 in
set_option maxHeartbeats 2000000 in
theorem nummake_any (neg : Bool) (a : Option Addr) (n c : Nat) (ls : List Nat) (exp : Int) (w : World) (h : WordsIn w a n c ls) (hT : TabIn w) (hn : n ≤ 100000) (he : -1000000000 ≤ exp) (he2 : exp ≤ 1000000000) :
    Calls Tryd.prog 12 #[.bool neg, .slice a n c, .int .i64 exp] w fun e w' => ∃ neg' exp' a' n' c' L er, e = .returned (.tuple #[.agg #[.bool neg', .int .i64 exp', .slice a' n' c'], .int .i64 er]) ∧ MakeOut neg (val (2 ^ 64) ls) exp neg' exp' L er ∧ WordsIn w' a' n' c' L ∧ Below w.heap.size w w' := by
  have hbit := fun W (hb : Below w.heap.size w W) => bits_any a n c ls W (h.step hb) (by omega)
  have hB0 : ∀ o, Below w.heap.size w (w.alloc o) := fun o => (Below.refl _ _).alloc (Nat.le_refl _) _
  by_cases h0 : val (2 ^ 64) ls = 0
  · have HB := Lib.hid (And.intro hbit h0)
    clear hbit h0 h hT he he2
    go_enter Tryd.func12, Tryd.ntmps12
    go_upto_if 12 with (go_at_call_of 23 a; refine (HB.out.1 _ (hB0 _)).mono ?_; rintro e w1 ⟨⟨k, rfl, hk⟩, hb1⟩; obtain rfl : k = 0 := hk.2 HB.out.2; have HB1 := Lib.hid hb1; clear hb1)
    have hx := box_at w false 0 none 0 0 28
    have hf : ∀ i, w1.frozen? ⟨w.heap.size, i, none⟩ = false := fun i => (HB1.out.frozen (p := ⟨w.heap.size, i, none⟩) hx.1).trans (frozen_of_row _ _ _ _ _ (heap_alloc_new _ _))
    have hc0 : w1.cell? ⟨w.heap.size, 0, none⟩ = some (.bool false) := (HB1.out.cell (p := ⟨w.heap.size, 0, none⟩) hx.1).trans hx.2.1
    have hc1 : w1.cell? ⟨w.heap.size, 1, none⟩ = some (.int .i64 0) := (HB1.out.cell (p := ⟨w.heap.size, 1, none⟩) hx.1).trans hx.2.2.1
    have hc2 : w1.cell? ⟨w.heap.size, 2, none⟩ = some (.slice none 0 0) := (HB1.out.cell (p := ⟨w.heap.size, 2, none⟩) hx.1).trans hx.2.2.2
    have hf0 := hf 0
    have hf1 := hf 1
    have hf2 := hf 2
    have hd1 : (w1.setCell ⟨w.heap.size, 0, none⟩ (.bool false)).cell? ⟨w.heap.size, 1, none⟩ = some (.int .i64 0) := (World.cell?_setCell_other _ _ _ _ (by simp)).trans hc1
    have hd2 : ((w1.setCell ⟨w.heap.size, 0, none⟩ (.bool false)).setCell ⟨w.heap.size, 1, none⟩ (.int .i64 0)).cell? ⟨w.heap.size, 2, none⟩ = some (.slice none 0 0) := (World.cell?_setCell_other _ _ _ _ (by simp)).trans ((World.cell?_setCell_other _ _ _ _ (by simp)).trans hc2)
    clear hf hx
    go_wp2_with fail
    have hb3 : Below w.heap.size w (((w1.setCell ⟨w.heap.size, 0, none⟩ (.bool false)).setCell ⟨w.heap.size, 1, none⟩ (.int .i64 0)).setCell ⟨w.heap.size, 2, none⟩ (.slice none 0 0)) := (((Below.next0 (hB0 _) HB1.out).setCell (p := ⟨w.heap.size, 0, none⟩) (Nat.le_refl _) _).setCell (p := ⟨w.heap.size, 1, none⟩) (Nat.le_refl _) _).setCell (p := ⟨w.heap.size, 2, none⟩) (Nat.le_refl _) _
    have k0 : (((w1.setCell ⟨w.heap.size, 0, none⟩ (.bool false)).setCell ⟨w.heap.size, 1, none⟩ (.int .i64 0)).setCell ⟨w.heap.size, 2, none⟩ (.slice none 0 0)).cell? ⟨w.heap.size, 0, none⟩ = some (.bool false) := (World.cell?_setCell_other _ _ _ _ (by simp)).trans ((World.cell?_setCell_other _ _ _ _ (by simp)).trans (World.cell?_setCell_same' _ _ _ (by rw [hc0]; rfl)))
    have k1 : (((w1.setCell ⟨w.heap.size, 0, none⟩ (.bool false)).setCell ⟨w.heap.size, 1, none⟩ (.int .i64 0)).setCell ⟨w.heap.size, 2, none⟩ (.slice none 0 0)).cell? ⟨w.heap.size, 1, none⟩ = some (.int .i64 0) := (World.cell?_setCell_other _ _ _ _ (by simp)).trans (World.cell?_setCell_same' _ _ _ (by rw [hd1]; rfl))
    have k2 : (((w1.setCell ⟨w.heap.size, 0, none⟩ (.bool false)).setCell ⟨w.heap.size, 1, none⟩ (.int .i64 0)).setCell ⟨w.heap.size, 2, none⟩ (.slice none 0 0)).cell? ⟨w.heap.size, 2, none⟩ = some (.slice none 0 0) := World.cell?_setCell_same' _ _ _ (by rw [hd2]; rfl)
    generalize (((w1.setCell ⟨w.heap.size, 0, none⟩ (.bool false)).setCell ⟨w.heap.size, 1, none⟩ (.int .i64 0)).setCell ⟨w.heap.size, 2, none⟩ (.slice none 0 0)) = W3 at *
    refine ⟨rfl, .tuple #[.agg #[.bool false, .int .i64 0, .slice none 0 0], .int .i64 0], by simp [results, go_sem, k0, k1, k2], false, 0, none, 0, 0, [], 0, rfl, .inl ⟨HB.out.2, rfl, rfl, rfl, rfl⟩, ⟨rfl, Nat.le_refl _, Nat.zero_le _, fun x hx => by simp at hx, .inl rfl⟩, hb3⟩
  · have hzr := fun W (hb : Below w.heap.size w W) => natzeros_any a n c ls W (h.step hb) (hT.step hb) (by omega) h0
    have hdn := fun W (hb : Below w.heap.size w W) z hz => natdown_any a n c ls z W (h.step hb) hn hz
    have HB := Lib.hid (And.intro hbit (And.intro hzr (And.intro hdn h0)))
    clear hbit hzr hdn h0 h hT
    by_cases hx1 : 65536 < exp
    · go_enter Tryd.func12, Tryd.ntmps12
      go_upto_if 12 with (go_at_call_of 23 a; refine (HB.out.1 _ (hB0 _)).mono ?_; rintro e w1 ⟨⟨k, rfl, hk⟩, hb1⟩; have hk0 : ((k : Int) == 0) = false := by { rw [beq_eq_false_iff_ne]; intro e; exact HB.out.2.2.2 (hk.1 (by omega)) }; have HB1 := Lib.hid hb1; clear hb1 hk)
      go_upto_if 23 with (go_at_call_of 24 a; refine (HB.out.2.1 _ (Below.next0 (hB0 _) HB1.out)).mono ?_; rintro e w2 ⟨⟨z, rfl, hz, hzl⟩, hb2⟩; have HB2 := Lib.hid (And.intro hz (And.intro hzl hb2)); clear hb2 hz hzl)
      have hl0 := (box_at w false 0 none 0 0 28).1
      have hN := ((NumBox.new w (.bool false) (.int .i64 0) (.slice none 0 0) 28).step HB1.out hl0).step HB2.out.2.2 (Nat.lt_of_lt_of_le hl0 HB1.out.size)
      have hbw : Below w.heap.size w w2 := Below.next0 (Below.next0 (hB0 _) HB1.out) HB2.out.2.2
      have hS := hN.store (.bool false) (.int .i64 0) (.slice none 0 0)
      have hL := NumBox.below hbw (Nat.le_refl _) (.bool false) (.int .i64 0) (.slice none 0 0)
      have HS := Lib.hid (And.intro hS hL)
      have hc0 := hN.c0
      have hc1 := hN.c1
      have hc2 := hN.c2
      have hf0 := hN.f0
      have hf1 := hN.f1
      have hf2 := hN.f2
      have hd1 := hN.d1 (.bool false)
      have hd2 := hN.d2 (.bool false) (.int .i64 0)
      clear hN hbw hS hL hl0
      go_wp2_with fail
      have k0 := HS.out.1.c0
      have k1 := HS.out.1.c1
      have k2 := HS.out.1.c2
      have hb3 := HS.out.2
      clear HS hd1 hd2
      generalize (((w2.setCell ⟨w.heap.size, 0, none⟩ (.bool false)).setCell ⟨w.heap.size, 1, none⟩ (.int .i64 0)).setCell ⟨w.heap.size, 2, none⟩ (.slice none 0 0)) = W3 at *
      refine ⟨rfl, .tuple #[.agg #[.bool false, .int .i64 0, .slice none 0 0], .int .i64 2], by simp [results, go_sem, k0, k1, k2], false, 0, none, 0, 0, [], 2, rfl, .inr ⟨z, HB2.out.1, .inl ⟨.inl hx1, rfl, rfl, rfl, rfl⟩⟩, ⟨rfl, Nat.le_refl _, Nat.zero_le _, fun x hx => by simp at hx, .inl rfl⟩, hb3⟩
    · go_enter Tryd.func12, Tryd.ntmps12
      go_upto_if 12 with (go_at_call_of 23 a; refine (HB.out.1 _ (hB0 _)).mono ?_; rintro e w1 ⟨⟨k, rfl, hk⟩, hb1⟩; have hk0 : ((k : Int) == 0) = false := by { rw [beq_eq_false_iff_ne]; intro e; exact HB.out.2.2.2 (hk.1 (by omega)) }; have HB1 := Lib.hid hb1; clear hb1 hk)
      go_upto_if 23 with (go_at_call_of 24 a; refine (HB.out.2.1 _ (Below.next0 (hB0 _) HB1.out)).mono ?_; rintro e w2 ⟨⟨z, rfl, hz, hzl⟩, hb2⟩; have HB2 := Lib.hid (And.intro hz (And.intro hzl hb2)); clear hb2 hz hzl)
      obtain ⟨y, hy⟩ : ∃ y : Int, -65536 - (z : Int) = y := ⟨_, rfl⟩
      have hzw : wrap64 (-65536 - (z : Int)) = y := by have := HB2.out.2.1; rw [← hy]; unfold wrap64; omega
      have HY := Lib.hid hy
      clear hy
      by_cases hx2 : exp < y
      · have hx1' : exp ≤ 65536 := by omega
        have hl0 := (box_at w false 0 none 0 0 28).1
        have hN := ((NumBox.new w (.bool false) (.int .i64 0) (.slice none 0 0) 28).step HB1.out hl0).step HB2.out.2.2 (Nat.lt_of_lt_of_le hl0 HB1.out.size)
        have hbw : Below w.heap.size w w2 := Below.next0 (Below.next0 (hB0 _) HB1.out) HB2.out.2.2
        have hS := hN.store (.bool false) (.int .i64 0) (.slice none 0 0)
        have hL := NumBox.below hbw (Nat.le_refl _) (.bool false) (.int .i64 0) (.slice none 0 0)
        have HS := Lib.hid (And.intro hS hL)
        have hc0 := hN.c0
        have hc1 := hN.c1
        have hc2 := hN.c2
        have hf0 := hN.f0
        have hf1 := hN.f1
        have hf2 := hN.f2
        have hd1 := hN.d1 (.bool false)
        have hd2 := hN.d2 (.bool false) (.int .i64 0)
        clear hN hbw hS hL hl0
        go_wp2_with fail
        have k0 := HS.out.1.c0
        have k1 := HS.out.1.c1
        have k2 := HS.out.1.c2
        have hb3 := HS.out.2
        clear HS hd1 hd2 hzw hx1'
        generalize (((w2.setCell ⟨w.heap.size, 0, none⟩ (.bool false)).setCell ⟨w.heap.size, 1, none⟩ (.int .i64 0)).setCell ⟨w.heap.size, 2, none⟩ (.slice none 0 0)) = W3 at k0 k1 k2 hb3 ⊢
        refine ⟨rfl, .tuple #[.agg #[.bool false, .int .i64 0, .slice none 0 0], .int .i64 2], by simp [results, go_sem, k0, k1, k2], false, 0, none, 0, 0, [], 2, rfl, .inr ⟨z, HB2.out.1, .inl ⟨.inr (.inl (by rw [HY.out]; exact hx2)), rfl, rfl, rfl, rfl⟩⟩, ⟨rfl, Nat.le_refl _, Nat.zero_le _, fun x hx => by simp at hx, .inl rfl⟩, hb3⟩
      · have hx2' : y ≤ exp := by omega
        have hzl : (z : Nat) ≤ 100000000 := by have := HB2.out.2.1; omega
        have hbw : Below w.heap.size w w2 := Below.next0 (Below.next0 (hB0 _) HB1.out) HB2.out.2.2
        have HDN := Lib.hid (And.intro (HB.out.2.2.1 w2 hbw z hzl) hbw)
        clear hbw hzl
        have hl0 := box_lt w (.cells #[.bool false, .int .i64 0, .slice none 0 0] 28)
        have hN := ((NumBox.new w (.bool false) (.int .i64 0) (.slice none 0 0) 28).step HB1.out hl0).step HB2.out.2.2 (Nat.lt_of_lt_of_le hl0 HB1.out.size)
        have HN := Lib.hid (And.intro hN (Nat.lt_of_lt_of_le (Nat.lt_of_lt_of_le hl0 HB1.out.size) HB2.out.2.2.size))
        clear hN hl0
        have he3 : -9223372036854775808 ≤ exp + (z : Int) := by omega
        have he4 : exp + (z : Int) ≤ 9223372036854775807 := by have := HB2.out.2.1; omega
        by_cases hnum : IsNum neg (exp + (z : Int)) (dig (2 ^ 64) (val (2 ^ 64) ls / 2 ^ z))
        · have hdec := decide_eq_true hnum
          have HNU := Lib.hid hnum
          clear hnum
          go_wp2_with (first
            | (go_at_call_of 25 a; refine HDN.out.1.mono ?_; rintro e w3 ⟨a', n', c', rfl, hW, hb3⟩; have HB3 := Lib.hid (And.intro hW hb3); clear hW hb3)
            | (refine (numright_any neg (exp + (z : Int)) a' n' c' _ _ (HB3.out.1.step ((Below.refl _ _).alloc (Nat.le_refl _) _)) he3 he4 (by have := HB3.out.1.cap; have := HB3.out.1.most; omega)).mono ?_; rintro r w4 ⟨hr, hb4⟩; rw [hdec] at hr; subst hr;
               have hB4 := (Below.next0 (Below.next0 HB3.out.2 ((Below.refl _ _).alloc (Nat.le_refl _) (.cells #[.bool neg, .int .i64 (exp + (z : Int)), .slice a' n' c'] 28))) hb4);
               have hRN := HN.out.1.step hB4 HN.out.2;
               have hGN := (NumBox.new w3 (.bool neg) (.int .i64 (exp + (z : Int))) (.slice a' n' c') 28).step hb4 (box_lt _ _);
               have hc0 := hRN.c0; have hc1 := hRN.c1; have hc2 := hRN.c2; have hf0 := hRN.f0; have hf1 := hRN.f1; have hf2 := hRN.f2; have hd1 := hRN.d1 (.bool neg); have hd2 := hRN.d2 (.bool neg) (.int .i64 (exp + (z : Int)));
               have hg0 := hGN.c0; have hg1 := hGN.c1; have hg2 := hGN.c2;
               have HB4 := Lib.hid (And.intro hRN (And.intro (Below.next0 HDN.out.2 hB4) ((HB3.out.1.step ((Below.refl _ _).alloc (Nat.le_refl _) (.cells #[.bool neg, .int .i64 (exp + (z : Int)), .slice a' n' c'] 28))).step hb4))); clear hRN hGN hB4 hb4))
          have hS := HB4.out.1.store (.bool neg) (.int .i64 (exp + (z : Int))) (.slice a' n' c')
          have k0 := hS.c0
          have k1 := hS.c1
          have k2 := hS.c2
          have hb5 := NumBox.below HB4.out.2.1 (Nat.le_refl _) (.bool neg) (.int .i64 (exp + (z : Int))) (.slice a' n' c')
          have hW5 : WordsIn _ a' n' c' (dig (2 ^ 64) (val (2 ^ 64) ls / 2 ^ z)) := ⟨HB4.out.2.2.len, HB4.out.2.2.cap, HB4.out.2.2.most, HB4.out.2.2.low, (HB4.out.2.2.rd.store3 HB4.out.1 (fun _ => by simp [nv]) (fun _ => by simp [nv]) (fun _ => by simp [nv]) (.bool neg) (.int .i64 (exp + (z : Int))) (.slice a' n' c')).more (box_size _ _ _ _ _)⟩
          clear hS hc0 hc1 hc2 hf0 hf1 hf2 hd1 hd2 hg0 hg1 hg2 hzw
          generalize World.setCell _ _ _ = W5 at k0 k1 k2 hb5 hW5 ⊢
          refine ⟨rfl, .tuple #[.agg #[.bool neg, .int .i64 (exp + (z : Int)), .slice a' n' c'], .int .i64 0], by simp [results, go_sem, k0, k1, k2], neg, exp + (z : Int), a', n', c', _, 0, rfl, .inr ⟨z, HB2.out.1, .inr ⟨hx1, by rw [HY.out]; exact hx2', HNU.out, rfl, rfl, rfl, rfl⟩⟩, hW5, hb5⟩
        · have hdec := decide_eq_false hnum
          have HNU := Lib.hid hnum
          clear hnum
          go_wp2_with (first
            | (go_at_call_of 25 a; refine HDN.out.1.mono ?_; rintro e w3 ⟨a', n', c', rfl, hW, hb3⟩; have HB3 := Lib.hid (And.intro hW hb3); clear hW hb3)
            | (refine (numright_any neg (exp + (z : Int)) a' n' c' _ _ (HB3.out.1.step ((Below.refl _ _).alloc (Nat.le_refl _) _)) he3 he4 (by have := HB3.out.1.cap; have := HB3.out.1.most; omega)).mono ?_; rintro r w4 ⟨hr, hb4⟩; rw [hdec] at hr; subst hr;
               have hB4 := (Below.next0 (Below.next0 HB3.out.2 ((Below.refl _ _).alloc (Nat.le_refl _) (.cells #[.bool neg, .int .i64 (exp + (z : Int)), .slice a' n' c'] 28))) hb4);
               have hRN := HN.out.1.step hB4 HN.out.2;
               have hGN := (NumBox.new w3 (.bool neg) (.int .i64 (exp + (z : Int))) (.slice a' n' c') 28).step hb4 (box_lt _ _);
               have hc0 := hRN.c0; have hc1 := hRN.c1; have hc2 := hRN.c2; have hf0 := hRN.f0; have hf1 := hRN.f1; have hf2 := hRN.f2; have hd1 := hRN.d1 (.bool false); have hd2 := hRN.d2 (.bool false) (.int .i64 0);
               have hg0 := hGN.c0; have hg1 := hGN.c1; have hg2 := hGN.c2;
               have HB4 := Lib.hid (And.intro hRN (And.intro (Below.next0 HDN.out.2 hB4) ((HB3.out.1.step ((Below.refl _ _).alloc (Nat.le_refl _) (.cells #[.bool neg, .int .i64 (exp + (z : Int)), .slice a' n' c'] 28))).step hb4))); clear hRN hGN hB4 hb4))
          have hS := HB4.out.1.store (.bool false) (.int .i64 0) (.slice none 0 0)
          have k0 := hS.c0
          have k1 := hS.c1
          have k2 := hS.c2
          have hb5 := NumBox.below HB4.out.2.1 (Nat.le_refl _) (.bool false) (.int .i64 0) (.slice none 0 0)
          have hW5 : WordsIn _ a' n' c' (dig (2 ^ 64) (val (2 ^ 64) ls / 2 ^ z)) := ⟨HB4.out.2.2.len, HB4.out.2.2.cap, HB4.out.2.2.most, HB4.out.2.2.low, (HB4.out.2.2.rd.store3 HB4.out.1 (fun _ => by simp [nv]) (fun _ => by simp [nv]) (fun _ => by simp [nv]) (.bool false) (.int .i64 0) (.slice none 0 0)).more (box_size _ _ _ _ _)⟩
          clear hS hc0 hc1 hc2 hf0 hf1 hf2 hd1 hd2 hg0 hg1 hg2 hzw
          generalize World.setCell _ _ _ = W5 at k0 k1 k2 hb5 hW5 ⊢
          refine ⟨rfl, .tuple #[.agg #[.bool false, .int .i64 0, .slice none 0 0], .int .i64 2], by simp [results, go_sem, k0, k1, k2], false, 0, none, 0, 0, [], 2, rfl, .inr ⟨z, HB2.out.1, .inl ⟨.inr (.inr HNU.out), rfl, rfl, rfl, rfl⟩⟩, ⟨rfl, Nat.le_refl _, Nat.zero_le _, fun x hx => by simp at hx, .inl rfl⟩, hb5⟩
end Go.Proofs.YtmocmkfpblakbaaDoor
