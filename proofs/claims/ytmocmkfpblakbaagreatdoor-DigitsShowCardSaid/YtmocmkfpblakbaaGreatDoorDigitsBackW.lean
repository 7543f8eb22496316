/- The walk of the law DigitsBack. Condition: the numbers lie as a slice of numbers; the library's tables lie. -/
import Derived.Test.YtmocmkfpblakbaaGreatDoorLaw4B
namespace Go.Proofs.YtmocmkfpblakbaaGreatDoor
open Go.RowKit WordsM DecM

theorem val_small {w : World} {a : Option Addr} {n c : Nat} {ls : List Nat} (K : Nat) (hK : 1280 ≤ K) (h : WordsIn w a n c ls) (hn : ls.length ≤ 64) : val (2 ^ 64) ls < 10 ^ K := by
  have h1 := val_lt (B := 2 ^ 64) (by decide) ls h.low
  have h2 : (2 ^ 64) ^ ls.length ≤ (10 ^ 20) ^ ls.length := Nat.pow_le_pow_left (by decide) _
  rw [← Nat.pow_mul 10] at h2
  have h3 : 10 ^ (20 * ls.length) ≤ 10 ^ K := Nat.pow_le_pow_right (by decide) (by omega)
  exact Nat.lt_of_lt_of_le h1 (Nat.le_trans h2 h3)
theorem back_plain {w : World} {a : Option Addr} {n c : Nat} {ls : List Nat} {neg : Bool} {exp : Int} (h : WordsIn w a n c ls) (hn : IsNum neg exp ls) {neg' : Bool} {e' : Int} {L : List Nat} {er : Int} (hp : ParseOut (textOut neg exp ls) neg' e' L er) :
    neg' = neg ∧ e' = exp ∧ L = ls ∧ er = 0 := by
  have hex := hn.exp
  have hdg := isnum_dig h hn
  have hvs := val_small 1300 (by decide) h hex.2.2
  rw [textOut, if_pos hn] at hp
  have h0 : val (2 ^ 64) ls = 0 → neg = false ∧ exp = 0 := fun e => by
    have hl : ls = [] := by rw [hdg, e, dig_zero]
    unfold IsNum at hn
    rw [if_pos hl] at hn
    exact hn
  have hf := form_text neg (val (2 ^ 64) ls) exp hex.1 hex.2.1 hvs h0
  unfold ParseOut at hp
  rw [hf] at hp
  by_cases hz : val (2 ^ 64) ls = 0
  · obtain ⟨rfl, rfl⟩ := h0 hz
    have hl : ls = [] := by rw [hdg, hz, dig_zero]
    rcases hp with ⟨_, h1, h2, h3, h4⟩ | ⟨y, hy, _⟩
    · exact ⟨h1, h2, by rw [h3, hl], h4⟩
    · exact absurd hz hy.pos
  · have hne : ls ≠ [] := fun e => hz (by rw [e]; rfl)
    have hodd : val (2 ^ 64) ls % 2 = 1 := by
      unfold IsNum at hn
      rw [if_neg hne] at hn
      cases ls with
      | nil => exact absurd rfl hne
      | cons x r =>
        have h1 := hn.2.2.1
        simp only [List.headD_cons] at h1
        simp only [val]
        have : (2 : Nat) ^ 64 = 2 * 2 ^ 63 := by decide
        rw [this, Nat.mul_assoc]
        omega
    have hm := make_one (z := 0) (by unfold IsTz; simp [Nat.mod_one, hodd]) hex.2.1 (by simpa using hex.1) (by rw [show val (2 ^ 64) ls / 2 ^ 0 = val (2 ^ 64) ls by simp, ← hdg]; simpa using hn) hp
    rw [show val (2 ^ 64) ls / 2 ^ 0 = val (2 ^ 64) ls by simp, ← hdg] at hm
    exact ⟨hm.1, by simpa using hm.2.1, hm.2.2.1, hm.2.2.2⟩
theorem text_len {w : World} {a : Option Addr} {n c : Nat} {ls : List Nat} {neg : Bool} {exp : Int} (h : WordsIn w a n c ls) : (textOut neg exp ls).length ≤ 2000 := by
  unfold textOut
  split
  · rename_i hn
    have hex := hn.exp
    have h1 := dec_words h (by rw [← h.len]; exact hex.2.2)
    have h2 := dec_len 6 exp.natAbs (by have : (10 : Nat) ^ 6 = 1000000 := rfl; omega) (by decide)
    have h3 : (expT exp).length ≤ 8 := by
      unfold expT
      split
      · simp
      · split <;> simp <;> omega
    generalize val (2 ^ 64) ls = v at h1 ⊢
    unfold textN
    simp only [List.length_append]
    split
    · simp only [List.length_cons, List.length_nil]; omega
    · simp only [List.length_nil]; omega
  · simp
set_option maxRecDepth 100000 in
set_option maxHeartbeats 8000000 in
theorem walkDigitsBack (a : Option Addr) (n c : Nat) (ls : List Nat) (w : World) (hln : ls.length = n) (hn : n ≤ 9223372036854775807) (hrd : RdU w w.heap.size a ls) (hx : ∀ x ∈ ls, x < 18446744073709551616) (hl : Laid w) :
    Calls Tryz.prog 5 #[.slice a n c] w fun e w' => e = .returned (.bool true) ∧ Below w.heap.size w w' := by
  have hk := known_any w hl
  have HL := Lib.hid (fun W (hb : Below w.heap.size w W) => hl.below hb)
  have HRD := Lib.hid (And.intro hrd hx)
  have HK := Lib.hid hk
  clear hk hl hrd hx
  go_enter Tryz.func5, Tryz.ntmps5
  go_wp2_with (first
    | (go_at_call_of 7 a; refine (deckof_any a n c ls w1 hln hn ((RdI.below (K := .u64) HRD.out.1 HB1.out).more HB1.out.size) HRD.out.2).mono ?_; rintro e w2 ⟨rfl, hd, hb2⟩; have HB2 := Lib.hid (And.intro hd hb2); clear hd hb2)
    | (refine (decknum_any w1.heap.size 0 w2 HB2.out.1 (by decide)).mono ?_; rintro e w3 ⟨⟨neg, ex, a3, n3, c3, L, rfl, hnum, hW3⟩, ht3⟩; have hb3 := Below.turn HB2.out.2 ht3 HB2.out.2.size (fun k e => by omega);
       have hex := hnum.exp; have hex1 := hex.1; have hex2 := hex.2.1;
       have hal : Below w3.heap.size w3 (w3.alloc (.cells #[.bool neg, .int .i64 ex, .slice a3 n3 c3] 24)) := (Below.refl _ _).alloc (Nat.le_refl _) _;
       have hba := Below.next0 HB1.out (hb3.trans (hal.mono hb3.size));
       have HB3 := Lib.hid (And.intro (hW3.step hal) (And.intro hnum hba)); clear hW3 hnum hba hb3 ht3 hex hal)
    | (go_at_call_of 9 a3; refine (text_any neg ex a3 n3 c3 L (w3.alloc (.cells #[.bool neg, .int .i64 ex, .slice a3 n3 c3] 24)) HB3.out.1 (by omega) (by omega) (HL.out _ HB3.out.2.2).tabs).mono ?_; rintro e w4 ⟨rfl, hb4⟩; have hTl := text_len (neg := neg) (exp := ex) HB3.out.1; obtain ⟨T, hT⟩ : ∃ T, textOut neg ex L = T := ⟨_, rfl⟩; rw [hT] at hTl ⊢;
       have HB4 := Lib.hid (And.intro hb4 (And.intro (Below.next0 HB3.out.2.2 hb4) (And.intro hTl hT))); clear hb4 hTl hT)
    | (go_at_call_of 12 T; refine (parse_any ⟨T.toArray⟩ w4 (Nat.le_trans (show T.toArray.size ≤ 2000 from HB4.out.2.2.1) (by decide)) (HL.out _ HB4.out.2.1).tz).mono ?_; rintro e w5 ⟨neg5, ex5, a5, n5, c5, L5, er5, rfl, hp5, hW5, hb5⟩;
       have hbk := back_plain HB3.out.1 HB3.out.2.1 (neg' := neg5) (e' := ex5) (L := L5) (er := er5) (by rw [HB4.out.2.2.2]; exact hp5); obtain ⟨h51, h52, h53, h54⟩ := hbk; subst h51 h52 h53 h54;
       have hal : Below w5.heap.size w5 (w5.alloc (.cells #[.bool neg5, .int .i64 ex5, .slice a5 n5 c5] 24)) := (Below.refl _ _).alloc (Nat.le_refl _) _;
       have hbx := Below.next0 (Below.next0 HB4.out.1 hb5) hal;
       have hxx := (NumBox.new w3 (.bool neg5) (.int .i64 ex5) (.slice a3 n3 c3) 24).step hbx (box_lt _ _); have hx0 := hxx.c0; have hx1 := hxx.c1; have hx2 := hxx.c2;
       have HB5 := Lib.hid (And.intro (HB3.out.1.step hbx) (And.intro (hW5.step hal) (Below.next0 HB3.out.2.2 hbx))); clear hp5 hW5 hb5 hal hbx hxx)
    | (go_at_call_of 13 a3; refine (numsame_any neg5 ex5 a3 n3 c3 L5 neg5 ex5 a5 n5 c5 L5 _ HB5.out.1 HB5.out.2.1 (Nat.le_trans HB5.out.1.cap HB5.out.1.most)).mono ?_; rintro e w6 ⟨he6, hb6⟩; rw [decide_eq_true ⟨rfl, rfl, rfl⟩] at he6; subst he6; have HB6 := Lib.hid (Below.next0 HB5.out.2.2 hb6); clear hb6)
    | (refine HK.out.mono ?_; rintro e w1 ⟨rfl, hb1⟩; have HB1 := Lib.hid hb1; clear hb1))
  go_ret
  exact ⟨rfl, HB6.out⟩
end Go.Proofs.YtmocmkfpblakbaaGreatDoor
