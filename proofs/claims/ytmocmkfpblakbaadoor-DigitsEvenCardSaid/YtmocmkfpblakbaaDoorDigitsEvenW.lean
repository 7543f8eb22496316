/- The walk of DigitsEven. Condition: the arguments are numbers of their kinds; the library's tables lie. -/
import Derived.Test.YtmocmkfpblakbaaDoorLaw4B
namespace Go.Proofs.YtmocmkfpblakbaaDoor
open Go.RowKit WordsM DecM

theorem pow_up (c a j : Nat) (h : a ≤ j) (hc : 0 < c) : c ^ a ≤ c ^ j := Nat.pow_le_pow_right hc h
theorem sz_one (c : UInt8) : (⟨#[c]⟩ : ByteArray).size = 1 := rfl
theorem even_form {v m : Nat} (hv : v ≠ 0) (hv2 : v < 18446744073709551616) (hm : 0 < m) (hm2 : m ≤ 65536) : form (dec v ++ 112 :: dec m) = some (false, v, (m : Int)) ∧ form (dec v ++ 112 :: 45 :: dec m) = some (false, v, -(m : Int)) := by
  have g1 := form_text false v (m : Int) (by omega) (by omega)
  have g2 := form_text false v (-(m : Int)) (by omega) (by omega)
  have h1 := g1 (Nat.lt_of_lt_of_le hv2 (Nat.le_trans (show 18446744073709551616 ≤ 10 ^ 20 by decide) (pow_up 10 20 1300 (by decide) (by decide)))) (fun h => absurd h hv)
  have h2 := g2 (Nat.lt_of_lt_of_le hv2 (Nat.le_trans (show 18446744073709551616 ≤ 10 ^ 20 by decide) (pow_up 10 20 1300 (by decide) (by decide)))) (fun h => absurd h hv)
  have e1 : textN false v (m : Int) = dec v ++ 112 :: dec m := by
    rw [textN, expT, if_neg (show ¬ ((false : Bool) = true) by decide), if_neg (show ¬ ((m : Int) = 0) by omega), if_neg (show ¬ ((m : Int) < 0) by omega), Int.natAbs_natCast]; rfl
  have e2 : textN false v (-(m : Int)) = dec v ++ 112 :: 45 :: dec m := by
    rw [textN, expT, if_neg (show ¬ ((false : Bool) = true) by decide), if_neg (show ¬ (-(m : Int) = 0) by omega), if_pos (show -(m : Int) < 0 by omega), Int.natAbs_neg, Int.natAbs_natCast]; rfl
  rw [e1] at h1
  rw [e2] at h2
  exact ⟨h1, h2⟩
theorem nought_form (r : List UInt8) : form (48 :: 112 :: r) = none := by
  unfold form
  rw [if_pos]
  right; right
  exact ⟨rfl, .inr (by simp [minus])⟩
theorem parse_form {S : List UInt8} {p : Bool × Nat × Int} (hf : form S = some p) {n' : Bool} {e' : Int} {L : List Nat} {er : Int} (h : ParseOut S n' e' L er) : MakeOut p.1 p.2.1 p.2.2 n' e' L er := by
  unfold ParseOut at h
  rw [hf] at h
  exact h
theorem parse_noform {S : List UInt8} (hf : form S = none) {n' : Bool} {e' : Int} {L : List Nat} {er : Int} (h : ParseOut S n' e' L er) : er = 5 := by
  unfold ParseOut at h
  rw [hf] at h
  exact h.2.2.2
theorem make_fine {v : Nat} {k : Int} (hv : v ≠ 0) (hv2 : v < 18446744073709551616) (h1 : -900 ≤ k) (h2 : k ≤ 900) {n' : Bool} {e' : Int} {L : List Nat} {er : Int} (h : MakeOut false v k n' e' L er) : er = 0 := by
  rcases h with ⟨h0, _⟩ | ⟨z, hz, h⟩
  · exact absurd h0 hv
  · have hz64 : z < 64 := by
      refine Nat.lt_of_not_le fun hle => ?_
      have h3 : 2 ^ 64 ≤ 2 ^ z := Nat.pow_le_pow_right (by decide) hle
      have h4 : v < 2 ^ z := Nat.lt_of_lt_of_le hv2 h3
      have h5 := hz.1
      rw [Nat.mod_eq_of_lt h4] at h5
      exact hv h5
    have hq := hz.2
    have hlt : v / 2 ^ z < 2 ^ 64 := Nat.lt_of_le_of_lt (Nat.div_le_self _ _) hv2
    generalize v / 2 ^ z = q at *
    have hd : dig (2 ^ 64) q = [q] := by
      rw [dig_step (by decide) (by omega), Nat.mod_eq_of_lt hlt, Nat.div_eq_of_lt hlt, dig_zero]
    rcases h with ⟨h3, _⟩ | ⟨_, _, _, _, _, _, h3⟩
    · exfalso
      rcases h3 with h3 | h3 | h3
      · omega
      · omega
      · rw [hd] at h3
        refine h3 ?_
        unfold IsNum
        rw [if_neg (by simp)]
        refine ⟨?_, by simp, by simpa using hq, by omega, by omega⟩
        have h6 : q ≠ 0 := by omega
        simp [trimL, h6]
    · exact h3
set_option maxRecDepth 100000 in
set_option maxHeartbeats 800000 in
theorem walkDigitsEven (v ex : Nat) (low : Bool) (w : World) (hv : v < 18446744073709551616) (hex : ex < 65536) (hl : Laid w) :
    Calls Tryd.prog 4 #[.int .u64 (v : Int), .int .u16 (ex : Int), .bool low] w fun e w' => e = .returned (.bool true) ∧ Below w.heap.size w w' := by
  have hk := known_any w hl
  have HL := Lib.hid (fun W (hb : Below w.heap.size w W) => hl.below hb)
  have HK := Lib.hid hk
  clear hk hl
  obtain ⟨j, hj⟩ : ∃ j : Nat, ex % 900 = j := ⟨_, rfl⟩
  have hj2 : j < 900 := by rw [← hj]; exact Nat.mod_lt _ (by decide)
  have hjI : (ex : Int) % 900 = (j : Int) := by omega
  obtain ⟨m, hm⟩ : ∃ m : Nat, j + 1 = m := ⟨_, rfl⟩
  have hmI : (j : Int) + 1 = (m : Int) := by omega
  have hm0 : 0 < m := by omega
  have hm1 : m ≤ 900 := by omega
  have hdm := dec_len 3 m (by omega) (by decide)
  have hdv := dec_len 20 v (by omega) (by decide)
  obtain ⟨D, hD⟩ : ∃ D : ByteArray, sv (dec v) = .string D := ⟨_, rfl⟩
  have hDl : D.data.toList = dec v := by
    have h1 : sv (dec v) = .string ⟨(dec v).toArray⟩ := rfl
    rw [h1] at hD; injection hD with hD; rw [← hD]
  obtain ⟨E, hE⟩ : ∃ E : ByteArray, sv (dec m) = .string E := ⟨_, rfl⟩
  have hEl : E.data.toList = dec m := by
    have h1 : sv (dec m) = .string ⟨(dec m).toArray⟩ := rfl
    rw [h1] at hE; injection hE with hE; rw [← hE]
  have hDs : D.size ≤ 20 := by have h1 : D.size = D.data.toList.length := rfl; rw [h1, hDl]; exact hdv
  have hEs : E.size ≤ 3 := by have h1 : E.size = E.data.toList.length := rfl; rw [h1, hEl]; exact hdm
  have hdec1 := fun a n c W (h : DigIn W a n c v) (hn : n ≤ 1000000) => refdec_dig a n c v W h hn
  have hdec2 := fun a n c W (h : DigIn W a n c m) (hn : n ≤ 1000000) => refdec_dig a n c m W h hn
  rw [hD] at hdec1
  rw [hE] at hdec2
  have hsz1 : (D ++ ⟨#[112]⟩ ++ E).size ≤ 281474976710656 := by simp only [ByteArray.size_append, sz_one]; omega
  have hsz2 : (D ++ ⟨#[112]⟩ ++ ⟨#[45]⟩ ++ E).size ≤ 281474976710656 := by simp only [ByteArray.size_append, sz_one]; omega
  have htx1 : (D ++ ⟨#[112]⟩ ++ E).data.toList = dec v ++ 112 :: dec m := by simp [ByteArray.data_append, hDl, hEl]
  have htx2 : (D ++ ⟨#[112]⟩ ++ ⟨#[45]⟩ ++ E).data.toList = dec v ++ 112 :: 45 :: dec m := by simp [ByteArray.data_append, hDl, hEl]
  have hpa1 := fun W (h : Laid W) => parse_any (D ++ ⟨#[112]⟩ ++ E) W hsz1 h.tz
  have hpa2 := fun W (h : Laid W) => parse_any (D ++ ⟨#[112]⟩ ++ ⟨#[45]⟩ ++ E) W hsz2 h.tz
  rw [htx1] at hpa1
  rw [htx2] at hpa2
  have HX := Lib.hid (And.intro hdec1 (And.intro hdec2 (And.intro hpa1 hpa2)))
  clear hdec1 hdec2 hpa1 hpa2 hsz1 hsz2 htx1 htx2 hD hE hDl hEl hdm hdv
  clear hj hm
  by_cases hv0 : v = 0
  · subst hv0
    have hn0 : ∀ r, form (dec 0 ++ 112 :: r) = none := fun r => by rw [dec_low (by decide)]; exact nought_form r
    have HV := Lib.hid (And.intro (hn0 (dec m)) (hn0 (45 :: dec m)))
    clear hn0
    cases low
    ·   go_enter Tryd.func4, Tryd.ntmps4
        go_wp2_with (first
          | (go_at_call_of 11 (w1.heap.size); refine (refpart_dig _ 1 1 [0] _ (words_one w1 0 hv 41) (by decide)).mono ?_; rintro e w2 ⟨a2, n2, c2, rfl, hn2, hD, hb2⟩; rw [val_one] at hD; have HB2 := Lib.hid (And.intro hD (And.intro hn2 (Below.next0 (HB1.out.alloc HB1.out.size _) hb2))); clear hb2 hD hn2)
          | (go_at_call_of 9 a2; refine (HX.out.1 a2 n2 c2 _ HB2.out.1 (by have := HB2.out.2.1; omega)).mono ?_; rintro e w3 ⟨rfl, hb3⟩; have HB3 := Lib.hid (Below.next0 HB2.out.2.2 hb3); clear hb3)
          | (go_at_call_of 11 (w3.heap.size); refine (refpart_dig _ 1 1 [m] _ (words_one w3 m (by omega) 41) (by decide)).mono ?_; rintro e w4 ⟨a4, n4, c4, rfl, hn4, hD, hb4⟩; rw [val_one] at hD; have HB4 := Lib.hid (And.intro hD (And.intro hn4 (Below.next0 (HB3.out.alloc HB3.out.size _) hb4))); clear hb4 hD hn4)
          | (go_at_call_of 9 a4; refine (HX.out.2.1 a4 n4 c4 _ HB4.out.1 (by have := HB4.out.2.1; omega)).mono ?_; rintro e w5 ⟨rfl, hb5⟩; have HB5 := Lib.hid (Below.next0 HB4.out.2.2 hb5); clear hb5)
          | (go_at_call_of 6 E; refine (HX.out.2.2.1 w5 (HL.out _ HB5.out)).mono ?_; rintro e w6 ⟨neg6, e6, a6, n6, c6, L6, er6, rfl, hp6, hW6, hb6⟩; have h6 := parse_noform (HV.out.1) hp6; subst h6; have HB6 := Lib.hid ((Below.next0 HB5.out hb6).alloc (Below.next0 HB5.out hb6).size (.cells #[.bool neg6, .int .i64 e6, .slice a6 n6 c6] 28)); clear hp6 hW6 hb6)
          | (refine HK.out.mono ?_; rintro e w1 ⟨rfl, hb1⟩; have HB1 := Lib.hid hb1; clear hb1))
        go_ret
        exact ⟨rfl, HB6.out⟩
    ·   go_enter Tryd.func4, Tryd.ntmps4
        go_wp2_with (first
          | (go_at_call_of 11 (w1.heap.size); refine (refpart_dig _ 1 1 [0] _ (words_one w1 0 hv 41) (by decide)).mono ?_; rintro e w2 ⟨a2, n2, c2, rfl, hn2, hD, hb2⟩; rw [val_one] at hD; have HB2 := Lib.hid (And.intro hD (And.intro hn2 (Below.next0 (HB1.out.alloc HB1.out.size _) hb2))); clear hb2 hD hn2)
          | (go_at_call_of 9 a2; refine (HX.out.1 a2 n2 c2 _ HB2.out.1 (by have := HB2.out.2.1; omega)).mono ?_; rintro e w3 ⟨rfl, hb3⟩; have HB3 := Lib.hid (Below.next0 HB2.out.2.2 hb3); clear hb3)
          | (go_at_call_of 11 (w3.heap.size); refine (refpart_dig _ 1 1 [m] _ (words_one w3 m (by omega) 41) (by decide)).mono ?_; rintro e w4 ⟨a4, n4, c4, rfl, hn4, hD, hb4⟩; rw [val_one] at hD; have HB4 := Lib.hid (And.intro hD (And.intro hn4 (Below.next0 (HB3.out.alloc HB3.out.size _) hb4))); clear hb4 hD hn4)
          | (go_at_call_of 9 a4; refine (HX.out.2.1 a4 n4 c4 _ HB4.out.1 (by have := HB4.out.2.1; omega)).mono ?_; rintro e w5 ⟨rfl, hb5⟩; have HB5 := Lib.hid (Below.next0 HB4.out.2.2 hb5); clear hb5)
          | (go_at_call_of 6 E; refine (HX.out.2.2.2 w5 (HL.out _ HB5.out)).mono ?_; rintro e w6 ⟨neg6, e6, a6, n6, c6, L6, er6, rfl, hp6, hW6, hb6⟩; have h6 := parse_noform (HV.out.2) hp6; subst h6; have HB6 := Lib.hid ((Below.next0 HB5.out hb6).alloc (Below.next0 HB5.out hb6).size (.cells #[.bool neg6, .int .i64 e6, .slice a6 n6 c6] 28)); clear hp6 hW6 hb6)
          | (refine HK.out.mono ?_; rintro e w1 ⟨rfl, hb1⟩; have HB1 := Lib.hid hb1; clear hb1))
        go_ret
        exact ⟨rfl, HB6.out⟩
  · have hvI : ¬ (v : Int) = 0 := by omega
    have hvb : ((v : Int) == 0) = false := by rw [beq_eq_false_iff_ne]; exact hvI
    have HV := Lib.hid (even_form hv0 hv hm0 (by omega))
    cases low
    ·   go_enter Tryd.func4, Tryd.ntmps4
        go_wp2_with (first
          | (go_at_call_of 11 (w1.heap.size); refine (refpart_dig _ 1 1 [v] _ (words_one w1 v hv 41) (by decide)).mono ?_; rintro e w2 ⟨a2, n2, c2, rfl, hn2, hD, hb2⟩; rw [val_one] at hD; have HB2 := Lib.hid (And.intro hD (And.intro hn2 (Below.next0 (HB1.out.alloc HB1.out.size _) hb2))); clear hb2 hD hn2)
          | (go_at_call_of 9 a2; refine (HX.out.1 a2 n2 c2 _ HB2.out.1 (by have := HB2.out.2.1; omega)).mono ?_; rintro e w3 ⟨rfl, hb3⟩; have HB3 := Lib.hid (Below.next0 HB2.out.2.2 hb3); clear hb3)
          | (go_at_call_of 11 (w3.heap.size); refine (refpart_dig _ 1 1 [m] _ (words_one w3 m (by omega) 41) (by decide)).mono ?_; rintro e w4 ⟨a4, n4, c4, rfl, hn4, hD, hb4⟩; rw [val_one] at hD; have HB4 := Lib.hid (And.intro hD (And.intro hn4 (Below.next0 (HB3.out.alloc HB3.out.size _) hb4))); clear hb4 hD hn4)
          | (go_at_call_of 9 a4; refine (HX.out.2.1 a4 n4 c4 _ HB4.out.1 (by have := HB4.out.2.1; omega)).mono ?_; rintro e w5 ⟨rfl, hb5⟩; have HB5 := Lib.hid (Below.next0 HB4.out.2.2 hb5); clear hb5)
          | (go_at_call_of 6 E; refine (HX.out.2.2.1 w5 (HL.out _ HB5.out)).mono ?_; rintro e w6 ⟨neg6, e6, a6, n6, c6, L6, er6, rfl, hp6, hW6, hb6⟩; have hp6 : MakeOut false v (m : Int) neg6 e6 L6 er6 := parse_form HV.out.1 hp6; obtain rfl := make_fine hv0 hv (by omega) (by omega) hp6;
             have hal : Below w6.heap.size w6 (w6.alloc (.cells #[.bool neg6, .int .i64 e6, .slice a6 n6 c6] 28)) := (Below.refl _ _).alloc (Nat.le_refl _) _;
             have HB6 := Lib.hid (And.intro hp6 (And.intro (hW6.step hal) (Below.next0 (Below.next0 HB5.out hb6) hal))); clear hp6 hW6 hb6 hal)
          | (go_at_call_of 12 (Value.bool false); have hB7 := HB6.out.2.2.alloc HB6.out.2.2.size (.cells #[.int .u64 (v : Int)] 41); have hsz := World.size_alloc w6 (.cells #[.bool neg6, .int .i64 e6, .slice a6 n6 c6] 28); have hwd := words_one (w6.alloc (.cells #[.bool neg6, .int .i64 e6, .slice a6 n6 c6] 28)) v hv 41; rw [hsz] at hwd; refine (nummake_any false (some ⟨w6.heap.size + 1, 0, none⟩) 1 1 [v] ((m : Int)) _ hwd (HL.out _ hB7).tz (by decide) (by omega) (by omega)).mono ?_; rintro e w7 ⟨neg7, e7, a7, n7, c7, L7, er7, rfl, hp7, hW7, hb7⟩; rw [val_one] at hp7; have hun := make_unique HB6.out.1 hp7; obtain ⟨hu1, hu2, hu3, hu4⟩ := hun; subst hu1 hu2 hu3 hu4;
             have hal : Below w7.heap.size w7 (w7.alloc (.cells #[.bool neg6, .int .i64 e6, .slice a7 n7 c7] 28)) := (Below.refl _ _).alloc (Nat.le_refl _) _;
             have hal6 : Below (w6.alloc (.cells #[.bool neg6, .int .i64 e6, .slice a6 n6 c6] 28)).heap.size (w6.alloc (.cells #[.bool neg6, .int .i64 e6, .slice a6 n6 c6] 28)) ((w6.alloc (.cells #[.bool neg6, .int .i64 e6, .slice a6 n6 c6] 28)).alloc (.cells #[.int .u64 (v : Int)] 41)) := (Below.refl _ _).alloc (Nat.le_refl _) _;
             have hbx := Below.next0 (Below.next0 hal6 hb7) hal;
             have hxx := (NumBox.new w6 (.bool neg6) (.int .i64 e6) (.slice a6 n6 c6) 28).step hbx (box_lt _ _); have hx0 := hxx.c0; have hx1 := hxx.c1; have hx2 := hxx.c2;
             have HB7 := Lib.hid (And.intro (HB6.out.2.1.step hbx) (And.intro (hW7.step hal) (Below.next0 HB6.out.2.2 hbx))); clear hp7 hW7 hb7 hal hal6 hbx hxx hB7 hsz hwd)
          | (go_at_call_of 13 a7; refine (numsame_any neg6 e6 a6 n6 c6 L6 neg6 e6 a7 n7 c7 L6 _ HB7.out.1 HB7.out.2.1 (Nat.le_trans HB7.out.1.cap HB7.out.1.most)).mono ?_; rintro e w8 ⟨he8, hb8⟩; rw [decide_eq_true ⟨rfl, rfl, rfl⟩] at he8; subst he8; have HB8 := Lib.hid (Below.next0 HB7.out.2.2 hb8); clear hb8)
          | (refine HK.out.mono ?_; rintro e w1 ⟨rfl, hb1⟩; have HB1 := Lib.hid hb1; clear hb1))
        go_ret
        exact ⟨rfl, HB8.out⟩
    ·   go_enter Tryd.func4, Tryd.ntmps4
        go_wp2_with (first
          | (go_at_call_of 11 (w1.heap.size); refine (refpart_dig _ 1 1 [v] _ (words_one w1 v hv 41) (by decide)).mono ?_; rintro e w2 ⟨a2, n2, c2, rfl, hn2, hD, hb2⟩; rw [val_one] at hD; have HB2 := Lib.hid (And.intro hD (And.intro hn2 (Below.next0 (HB1.out.alloc HB1.out.size _) hb2))); clear hb2 hD hn2)
          | (go_at_call_of 9 a2; refine (HX.out.1 a2 n2 c2 _ HB2.out.1 (by have := HB2.out.2.1; omega)).mono ?_; rintro e w3 ⟨rfl, hb3⟩; have HB3 := Lib.hid (Below.next0 HB2.out.2.2 hb3); clear hb3)
          | (go_at_call_of 11 (w3.heap.size); refine (refpart_dig _ 1 1 [m] _ (words_one w3 m (by omega) 41) (by decide)).mono ?_; rintro e w4 ⟨a4, n4, c4, rfl, hn4, hD, hb4⟩; rw [val_one] at hD; have HB4 := Lib.hid (And.intro hD (And.intro hn4 (Below.next0 (HB3.out.alloc HB3.out.size _) hb4))); clear hb4 hD hn4)
          | (go_at_call_of 9 a4; refine (HX.out.2.1 a4 n4 c4 _ HB4.out.1 (by have := HB4.out.2.1; omega)).mono ?_; rintro e w5 ⟨rfl, hb5⟩; have HB5 := Lib.hid (Below.next0 HB4.out.2.2 hb5); clear hb5)
          | (go_at_call_of 6 E; refine (HX.out.2.2.2 w5 (HL.out _ HB5.out)).mono ?_; rintro e w6 ⟨neg6, e6, a6, n6, c6, L6, er6, rfl, hp6, hW6, hb6⟩; have hp6 : MakeOut false v (-(m : Int)) neg6 e6 L6 er6 := parse_form HV.out.2 hp6; obtain rfl := make_fine hv0 hv (by omega) (by omega) hp6;
             have hal : Below w6.heap.size w6 (w6.alloc (.cells #[.bool neg6, .int .i64 e6, .slice a6 n6 c6] 28)) := (Below.refl _ _).alloc (Nat.le_refl _) _;
             have HB6 := Lib.hid (And.intro hp6 (And.intro (hW6.step hal) (Below.next0 (Below.next0 HB5.out hb6) hal))); clear hp6 hW6 hb6 hal)
          | (go_at_call_of 12 (Value.bool false); have hB7 := HB6.out.2.2.alloc HB6.out.2.2.size (.cells #[.int .u64 (v : Int)] 41); have hsz := World.size_alloc w6 (.cells #[.bool neg6, .int .i64 e6, .slice a6 n6 c6] 28); have hwd := words_one (w6.alloc (.cells #[.bool neg6, .int .i64 e6, .slice a6 n6 c6] 28)) v hv 41; rw [hsz] at hwd; refine (nummake_any false (some ⟨w6.heap.size + 1, 0, none⟩) 1 1 [v] (-(m : Int)) _ hwd (HL.out _ hB7).tz (by decide) (by omega) (by omega)).mono ?_; rintro e w7 ⟨neg7, e7, a7, n7, c7, L7, er7, rfl, hp7, hW7, hb7⟩; rw [val_one] at hp7; have hun := make_unique HB6.out.1 hp7; obtain ⟨hu1, hu2, hu3, hu4⟩ := hun; subst hu1 hu2 hu3 hu4;
             have hal : Below w7.heap.size w7 (w7.alloc (.cells #[.bool neg6, .int .i64 e6, .slice a7 n7 c7] 28)) := (Below.refl _ _).alloc (Nat.le_refl _) _;
             have hal6 : Below (w6.alloc (.cells #[.bool neg6, .int .i64 e6, .slice a6 n6 c6] 28)).heap.size (w6.alloc (.cells #[.bool neg6, .int .i64 e6, .slice a6 n6 c6] 28)) ((w6.alloc (.cells #[.bool neg6, .int .i64 e6, .slice a6 n6 c6] 28)).alloc (.cells #[.int .u64 (v : Int)] 41)) := (Below.refl _ _).alloc (Nat.le_refl _) _;
             have hbx := Below.next0 (Below.next0 hal6 hb7) hal;
             have hxx := (NumBox.new w6 (.bool neg6) (.int .i64 e6) (.slice a6 n6 c6) 28).step hbx (box_lt _ _); have hx0 := hxx.c0; have hx1 := hxx.c1; have hx2 := hxx.c2;
             have HB7 := Lib.hid (And.intro (HB6.out.2.1.step hbx) (And.intro (hW7.step hal) (Below.next0 HB6.out.2.2 hbx))); clear hp7 hW7 hb7 hal hal6 hbx hxx hB7 hsz hwd)
          | (go_at_call_of 13 a7; refine (numsame_any neg6 e6 a6 n6 c6 L6 neg6 e6 a7 n7 c7 L6 _ HB7.out.1 HB7.out.2.1 (Nat.le_trans HB7.out.1.cap HB7.out.1.most)).mono ?_; rintro e w8 ⟨he8, hb8⟩; rw [decide_eq_true ⟨rfl, rfl, rfl⟩] at he8; subst he8; have HB8 := Lib.hid (Below.next0 HB7.out.2.2 hb8); clear hb8)
          | (refine HK.out.mono ?_; rintro e w1 ⟨rfl, hb1⟩; have HB1 := Lib.hid hb1; clear hb1))
        go_ret
        exact ⟨rfl, HB8.out⟩
end Go.Proofs.YtmocmkfpblakbaaDoor
