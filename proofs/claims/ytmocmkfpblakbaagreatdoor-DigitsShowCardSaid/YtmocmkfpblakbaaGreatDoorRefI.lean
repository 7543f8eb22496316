/- The walk of the document's Make. Condition: the words lie as a slice of words, not too long; the exponent is not too large. -/
import Derived.Test.YtmocmkfpblakbaaGreatDoorRefH
import Derived.Test.YtmocmkfpblakbaaGreatDoorNumC
namespace Go.Proofs.YtmocmkfpblakbaaGreatDoor
open Go.RowKit WordsM

theorem halves_val (ws : List Nat) : NatM.val (NatM.halves ws) = val (2 ^ 64) ws := by
  induction ws with
  | nil => rfl
  | cons x r ih =>
    have e : NatM.halves (x :: r) = (x % 4294967296) :: (x / 4294967296) :: NatM.halves r := rfl
    rw [e]
    simp only [NatM.val, val, ih]
    rw [show (2 : Nat) ^ 64 = 4294967296 * 4294967296 by decide, Nat.mul_assoc]
    show x % 4294967296 + 4294967296 * (x / 4294967296 + 4294967296 * val (4294967296 * 4294967296) r) = _
    rw [Nat.mul_add]
    omega
theorem refpart_dig (a : Option Addr) (n c : Nat) (ls : List Nat) (w : World) (h : WordsIn w a n c ls) (hm : n ≤ 1000000) :
    Calls Tryz.prog 22 #[.slice a n c] w fun e w' => ∃ a' n' c', e = .returned (.slice a' n' c') ∧ n' ≤ 2 * n ∧ DigIn w' a' n' c' (val (2 ^ 64) ls) ∧ Below w.heap.size w w' := by
  refine (refpart_any a n c ls w h.len hm h.rd.rdN h.low).mono ?_
  rintro e w' ⟨a', n', c', rfl, hn', hc, hc', hrd, hb⟩
  have h1 : NatM.trimL (NatM.halves ls) = dig (2 ^ 32) (val (2 ^ 64) ls) := by
    rw [trim_nat, trim_dig (B := 2 ^ 32) (by decide) (show Low (2 ^ 32) (NatM.halves ls) from NatM.halves_small h.low), ← val_nat, halves_val]
  have h2 := NatM.trim_len (NatM.halves ls)
  rw [NatM.halves_len, h.len] at h2
  rw [h1] at hn' hrd h2
  exact ⟨a', n', c', rfl, by omega, ⟨hn'.symm, hc, hc', hrd.rdI⟩, hb⟩
theorem fit_num {v : Nat} (hv : v % 2 = 1) (neg : Bool) (e : Int) : Fit v e ↔ IsNum neg e (dig (2 ^ 64) v) := by
  have h0 : v ≠ 0 := by omega
  have hne : dig (2 ^ 64) v ≠ [] := fun e => h0 ((dig_nil (by decide)).1 e)
  have ht := trimL_right _ (dig_last (B := 2 ^ 64) (by decide) v)
  have hh : (dig (2 ^ 64) v).headD 0 % 2 = 1 := by
    rw [dig_step (by decide) h0]
    show v % 2 ^ 64 % 2 = 1
    rw [show (2 : Nat) ^ 64 = 18446744073709551616 from rfl]
    omega
  unfold IsNum Fit
  rw [if_neg hne, ht]
  exact ⟨fun h => ⟨rfl, h.1, hh, h.2.1, h.2.2⟩, fun h => ⟨h.2.1, h.2.2.2⟩⟩
theorem make_out {neg : Bool} {v : Nat} {e : Int} {neg1 : Bool} {v1 : Nat} {e1 : Int} {neg2 : Bool} {e2 : Int} {L : List Nat} {er : Int} (h1 : OddOut neg v e neg1 v1 e1) (h2 : ValNum neg1 v1 e1 neg2 e2 L er) : MakeOut neg v e neg2 e2 L er := by
  rcases h1 with ⟨h0, rfl, rfl, rfl⟩ | ⟨z, hz, rfl, rfl, rfl⟩
  · rcases h2 with ⟨_, h3, h4, h5, h6⟩ | ⟨h3, _⟩ | ⟨h3, _⟩
    · exact .inl ⟨h0, h3, h4, h5, h6⟩
    · exact absurd rfl h3
    · exact absurd rfl h3
  · have hv1 := hz.2
    have hf := fit_num hv1 neg1 (e + (z : Int))
    refine .inr ⟨z, hz, ?_⟩
    rcases h2 with ⟨h3, _⟩ | ⟨h3, h4, h5, h6, h7, h8⟩ | ⟨h3, h4, rfl, rfl, rfl, h8⟩
    · rw [h3] at hv1; simp at hv1
    · exact .inl ⟨.inr (.inr fun h => h4 (hf.2 h)), h5, h6, h7, h8⟩
    · exact .inr ⟨by have := h4.2.2; omega, by have := h4.2.1; omega, hf.1 h4, rfl, rfl, rfl, h8⟩
theorem odd_out_len {w : World} {a : Option Addr} {n c v : Nat} (h : DigIn w a n c v) (h0 : v ≠ 0) : n ≠ 0 := fun e => h0 ((dig_nil (B := 2 ^ 32) (by decide)).1 (List.length_eq_zero_iff.1 (by rw [h.len, e])))
set_option maxRecDepth 100000 in
set_option maxHeartbeats 4000000 in
theorem refmake_any (neg : Bool) (a : Option Addr) (n c : Nat) (ls : List Nat) (exp : Int) (w : World) (h : WordsIn w a n c ls) (hn : n ≤ 100000) (he : -1000000000 ≤ exp) (he2 : exp ≤ 1000000000) :
    Calls Tryz.prog 30 #[.bool neg, .slice a n c, .int .i64 exp] w fun e w' => ∃ neg' exp' a' n' c' L er, e = .returned (.tuple #[.agg #[.bool neg', .int .i64 exp', .slice a' n' c'], .int .i64 er]) ∧ MakeOut neg (val (2 ^ 64) ls) exp neg' exp' L er ∧ WordsIn w' a' n' c' L ∧ Below w.heap.size w w' := by
  have hB0 : ∀ o, Below w.heap.size w (w.alloc o) := fun o => (Below.refl _ _).alloc (Nat.le_refl _) _
  have hl0 := box_lt w (.cells #[.bool false, .int .i64 0, .slice none 0 0] 24)
  have hN0 := NumBox.new w (.bool false) (.int .i64 0) (.slice none 0 0) 24
  have hp := refpart_dig a n c ls (w.alloc (.cells #[.bool false, .int .i64 0, .slice none 0 0] 24)) (h.step (hB0 _)) (by omega)
  generalize val (2 ^ 64) ls = v at *
  have HP := Lib.hid (And.intro hp hN0)
  clear hp hN0 h
  by_cases h0 : v = 0
  · go_enter Tryz.func30, Tryz.ntmps30
    go_wp2_with (refine HP.out.1.mono ?_; rintro e w1 ⟨m, k, c', rfl, hk, hD, hb1⟩; obtain rfl : k = 0 := by { have := hD.len; rw [h0, dig_zero] at this; exact this.symm };
                 have hN := HP.out.2.step hb1 hl0;
                 have hc0 := hN.c0; have hc1 := hN.c1; have hc2 := hN.c2; have hf0 := hN.f0; have hf1 := hN.f1; have hf2 := hN.f2; have hd1 := hN.d1 (.bool false); have hd2 := hN.d2 (.bool false) (.int .i64 0);
                 have HB1 := Lib.hid (And.intro hN (Below.next0 (hB0 _) hb1)); clear hN hb1)
    have hS := HB1.out.1.store (.bool false) (.int .i64 0) (.slice none 0 0)
    have k0 := hS.c0
    have k1 := hS.c1
    have k2 := hS.c2
    have hb5 := NumBox.below HB1.out.2 (Nat.le_refl _) (.bool false) (.int .i64 0) (.slice none 0 0)
    clear hS hc0 hc1 hc2 hf0 hf1 hf2 hd1 hd2
    generalize World.setCell _ _ _ = W5 at k0 k1 k2 hb5 ⊢
    refine ⟨rfl, .tuple #[.agg #[.bool false, .int .i64 0, .slice none 0 0], .int .i64 0], by simp [results, go_sem, k0, k1, k2], false, 0, none, 0, 0, [], 0, rfl, .inl ⟨h0, rfl, rfl, rfl, rfl⟩, WordsIn.nil_ _, hb5⟩
  · obtain ⟨z0, hz0⟩ := tz_exists h0
    have HZ0 := Lib.hid (And.intro hz0 h0)
    clear hz0 h0
    by_cases hx1 : 65536 < exp
    · go_enter Tryz.func30, Tryz.ntmps30
      go_wp2_with (refine HP.out.1.mono ?_; rintro e w1 ⟨m, k, c', rfl, hk, hD, hb1⟩; have hk0 : ((k : Int) == 0) = false := by { rw [beq_eq_false_iff_ne]; have := odd_out_len hD HZ0.out.2; omega };
                   have hN := HP.out.2.step hb1 hl0;
                   have hc0 := hN.c0; have hc1 := hN.c1; have hc2 := hN.c2; have hf0 := hN.f0; have hf1 := hN.f1; have hf2 := hN.f2; have hd1 := hN.d1 (.bool false); have hd2 := hN.d2 (.bool false) (.int .i64 0);
                   have HB1 := Lib.hid (And.intro hN (Below.next0 (hB0 _) hb1)); clear hN hb1 hD)
      have hS := HB1.out.1.store (.bool false) (.int .i64 0) (.slice none 0 0)
      have k0 := hS.c0
      have k1 := hS.c1
      have k2 := hS.c2
      have hb5 := NumBox.below HB1.out.2 (Nat.le_refl _) (.bool false) (.int .i64 0) (.slice none 0 0)
      clear hS hc0 hc1 hc2 hf0 hf1 hf2 hd1 hd2
      generalize World.setCell _ _ _ = W5 at k0 k1 k2 hb5 ⊢
      refine ⟨rfl, .tuple #[.agg #[.bool false, .int .i64 0, .slice none 0 0], .int .i64 2], by simp [results, go_sem, k0, k1, k2], false, 0, none, 0, 0, [], 2, rfl, .inr ⟨z0, HZ0.out.1, .inl ⟨.inl hx1, rfl, rfl, rfl, rfl⟩⟩, WordsIn.nil_ _, hb5⟩
    · obtain ⟨y, hy⟩ : ∃ y : Int, -65536 - (z0 : Int) = y := ⟨_, rfl⟩
      have HY := Lib.hid hy
      clear hy
      by_cases hx2 : exp < y
      · have hx1' : exp ≤ 65536 := by omega
        go_enter Tryz.func30, Tryz.ntmps30
        go_wp2_with (first
          | (refine HP.out.1.mono ?_; rintro e w1 ⟨m, k, c', rfl, hk, hD, hb1⟩; have hk0 : ((k : Int) == 0) = false := by { rw [beq_eq_false_iff_ne]; have := odd_out_len hD HZ0.out.2; omega };
             have HB1 := Lib.hid (And.intro hD hb1); clear hb1 hD)
          | (refine (refzeros_any m k c' v _ HB1.out.1 (by omega) HZ0.out.2).mono ?_; rintro e w2 ⟨⟨z, rfl, hz, hzl⟩, hb2⟩; obtain rfl : z0 = z := HZ0.out.1.eq hz;
             have hzw : wrap64 (-65536 - (z0 : Int)) = y := by { rw [← HY.out]; unfold wrap64; omega };
             have hN := (HP.out.2.step HB1.out.2 hl0).step hb2 (Nat.lt_of_lt_of_le hl0 HB1.out.2.size);
             have hc0 := hN.c0; have hc1 := hN.c1; have hc2 := hN.c2; have hf0 := hN.f0; have hf1 := hN.f1; have hf2 := hN.f2; have hd1 := hN.d1 (.bool false); have hd2 := hN.d2 (.bool false) (.int .i64 0);
             have HB2 := Lib.hid (And.intro hN (Below.next0 (Below.next0 (hB0 _) HB1.out.2) hb2)); clear hN hb2 hz hzl))
        have hS := HB2.out.1.store (.bool false) (.int .i64 0) (.slice none 0 0)
        have k0 := hS.c0
        have k1 := hS.c1
        have k2 := hS.c2
        have hb5 := NumBox.below HB2.out.2 (Nat.le_refl _) (.bool false) (.int .i64 0) (.slice none 0 0)
        clear hS hc0 hc1 hc2 hf0 hf1 hf2 hd1 hd2 hzw
        generalize World.setCell _ _ _ = W5 at k0 k1 k2 hb5 ⊢
        refine ⟨rfl, .tuple #[.agg #[.bool false, .int .i64 0, .slice none 0 0], .int .i64 2], by simp [results, go_sem, k0, k1, k2], false, 0, none, 0, 0, [], 2, rfl, .inr ⟨z0, HZ0.out.1, .inl ⟨.inr (.inl (by rw [HY.out]; exact hx2)), rfl, rfl, rfl, rfl⟩⟩, WordsIn.nil_ _, hb5⟩
      · have hx1' : exp ≤ 65536 := by omega
        have hx2' : y ≤ exp := by omega
        go_enter Tryz.func30, Tryz.ntmps30
        go_wp2_with (first
          | (go_at_call_of 22 a; refine HP.out.1.mono ?_; rintro e w1 ⟨m, k, c', rfl, hk, hD, hb1⟩; have hk0 : ((k : Int) == 0) = false := by { rw [beq_eq_false_iff_ne]; have := odd_out_len hD HZ0.out.2; omega };
             have HB1 := Lib.hid (And.intro hD hb1); clear hb1 hD)
          | (go_at_call_of 52 m; refine (refzeros_any m k c' v _ HB1.out.1 (by omega) HZ0.out.2).mono ?_; rintro e w2 ⟨⟨z, rfl, hz, hzl⟩, hb2⟩; obtain rfl : z0 = z := HZ0.out.1.eq hz;
             have hzw : wrap64 (-65536 - (z0 : Int)) = y := by { rw [← HY.out]; unfold wrap64; omega };
             have HB2 := Lib.hid (And.intro (HB1.out.1.step hb2) hb2); clear hb2 hz hzl)
          | (go_at_call_of 42 neg; refine (refodd_any neg m k c' v exp _ HB2.out.1 (by omega) he he2).mono ?_; rintro e w3 ⟨neg1, a1, n1, c1, v1, e1, rfl, ho, hD1, hn1, he1, he3, hb3⟩; have HB3 := Lib.hid (And.intro ho (And.intro hD1 hb3)); clear ho hD1 hb3)
          | (refine (refnum_any neg1 a1 n1 c1 v1 e1 _ HB3.out.2.1 (by omega)).mono ?_; rintro e w4 ⟨neg2, e2, a2, n2, c2, L, er, rfl, hvn, hW4, hb4⟩;
             have hB4 := Below.next0 (Below.next0 (Below.next0 HB1.out.2 HB2.out.2) HB3.out.2.2) hb4;
             have hN := HP.out.2.step hB4 hl0;
             have hc0 := hN.c0; have hc1 := hN.c1; have hc2 := hN.c2; have hf0 := hN.f0; have hf1 := hN.f1; have hf2 := hN.f2; have hd1 := hN.d1 (.bool neg2); have hd2 := hN.d2 (.bool neg2) (.int .i64 e2);
             have HB4 := Lib.hid (And.intro hN (And.intro (Below.next0 (hB0 _) hB4) (And.intro hW4 hvn))); clear hN hb4 hB4 hW4 hvn))
        have hS := HB4.out.1.store (.bool neg2) (.int .i64 e2) (.slice a2 n2 c2)
        have k0 := hS.c0
        have k1 := hS.c1
        have k2 := hS.c2
        have hb5 := NumBox.below HB4.out.2.1 (Nat.le_refl _) (.bool neg2) (.int .i64 e2) (.slice a2 n2 c2)
        have hW := HB4.out.2.2.1
        have hW5 : WordsIn _ a2 n2 c2 L := ⟨hW.len, hW.cap, hW.most, hW.low, (hW.rd.store3 HB4.out.1 (fun _ => by simp [nv]) (fun _ => by simp [nv]) (fun _ => by simp [nv]) (.bool neg2) (.int .i64 e2) (.slice a2 n2 c2)).more (box_size _ _ _ _ _)⟩
        clear hS hc0 hc1 hc2 hf0 hf1 hf2 hd1 hd2 hzw hW
        generalize World.setCell _ _ _ = W5 at k0 k1 k2 hb5 hW5 ⊢
        refine ⟨rfl, .tuple #[.agg #[.bool neg2, .int .i64 e2, .slice a2 n2 c2], .int .i64 er], by simp [results, go_sem, k0, k1, k2], neg2, e2, a2, n2, c2, L, er, rfl, make_out HB3.out.1 HB4.out.2.2.2, hW5, hb5⟩
end Go.Proofs.YtmocmkfpblakbaaGreatDoor
