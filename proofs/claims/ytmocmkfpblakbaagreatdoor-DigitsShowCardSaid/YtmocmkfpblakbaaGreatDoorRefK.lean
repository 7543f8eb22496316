/- The walk of the document's Text. Condition: the words lie as a slice of words, not too long. -/
import Derived.Test.YtmocmkfpblakbaaGreatDoorRefI
import Derived.Test.YtmocmkfpblakbaaGreatDoorRefJ
import Derived.Test.YtmocmkfpblakbaaGreatDoorRefM1
namespace Go.Proofs.YtmocmkfpblakbaaGreatDoor
open Go.RowKit WordsM DecM

theorem refdec_dig (a : Option Addr) (n c v : Nat) (w : World) (h : DigIn w a n c v) (hn : n ≤ 1000000) :
    Calls Tryz.prog 21 #[.slice a n c] w fun e w' => e = .returned (sv (dec v)) ∧ Below w.heap.size w w' := by
  have h1 := refdec_any a n c (dig (2 ^ 32) v) w h.len hn h.cap h.most h.rd.rdN (show NatM.small (dig (2 ^ 32) v) from dig_low (B := 2 ^ 32) (by decide) v)
  rwa [val_nat, val_dig (by decide)] at h1
theorem words_one (w : World) (m : Nat) (hm : m < 18446744073709551616) (T : TypeId) : WordsIn (w.alloc (.cells #[.int .u64 (m : Int)] T)) (some ⟨w.heap.size, 0, none⟩) 1 1 [m] :=
  ⟨rfl, Nat.le_refl _, by omega, fun x hx => by rw [List.mem_singleton] at hx; subst hx; exact hm, .inr ⟨w.heap.size, 0, rfl, box_lt _ _, fun j x hx => by
    cases j with
    | zero => simp only [List.getElem?_cons_zero, Option.some.injEq] at hx; subst hx; rw [cell_of_row _ _ _ _ _ _ (heap_alloc_new _ _)]; rfl
    | succ j => simp at hx⟩⟩
/-- the text of a number, "" where it is none -/
def textOut (neg : Bool) (exp : Int) (ls : List Nat) : List UInt8 := if IsNum neg exp ls then textN neg (val (2 ^ 64) ls) exp else []
theorem IsNum.exp {neg : Bool} {exp : Int} {ls : List Nat} (h : IsNum neg exp ls) : -65536 ≤ exp ∧ exp ≤ 65536 ∧ ls.length ≤ 64 := by
  unfold IsNum at h
  split at h
  · rename_i h0
    rw [h0, h.2]; simp
  · exact ⟨h.2.2.2.1, h.2.2.2.2, h.2.1⟩
theorem dec_words {w : World} {a : Option Addr} {n c : Nat} {ls : List Nat} (h : WordsIn w a n c ls) (hn : n ≤ 64) : (dec (val (2 ^ 64) ls)).length ≤ 1281 := by
  have h1 := NatM.dec_val_len (NatM.halves_small h.low)
  rw [halves_val, NatM.halves_len, h.len] at h1
  exact Nat.le_trans h1 (by omega)
set_option maxRecDepth 100000 in
set_option maxHeartbeats 4000000 in
theorem reftext_any (neg : Bool) (exp : Int) (a : Option Addr) (n c : Nat) (ls : List Nat) (w : World) (h : WordsIn w a n c ls) (he : -9223372036854775808 ≤ exp) (he2 : exp ≤ 9223372036854775807) :
    Calls Tryz.prog 10 #[.agg #[.bool neg, .int .i64 exp, .slice a n c]] w fun e w' => e = .returned (sv (textOut neg exp ls)) ∧ Below w.heap.size w w' := by
  have hcm := Nat.le_trans h.cap h.most
  have hB0 : Below w.heap.size w (w.alloc (.cells #[.bool neg, .int .i64 exp, .slice a n c] 24)) := (Below.refl _ _).alloc (Nat.le_refl _) _
  have hN := NumBox.new w (.bool neg) (.int .i64 exp) (.slice a n c) 24
  have hl0 := box_lt w (.cells #[.bool neg, .int .i64 exp, .slice a n c] 24)
  have hr := refright_any neg exp a n c ls _ (h.step hB0) he he2 hcm
  by_cases hnum : IsNum neg exp ls
  · have htx : textOut neg exp ls = textN neg (val (2 ^ 64) ls) exp := if_pos hnum
    rw [htx]
    have hex := hnum.exp
    have hn64 : n ≤ 64 := by rw [← h.len]; exact hex.2.2
    rw [decide_eq_true hnum] at hr
    have hp := fun W (hb : Below w.heap.size w W) => refpart_dig a n c ls W (h.step hb) (by omega)
    have hdl := dec_words h hn64
    generalize val (2 ^ 64) ls = v at *
    have HR := Lib.hid (And.intro hr (And.intro hp (And.intro hN hB0)))
    clear hr hp htx hnum h hN hB0
    by_cases h0 : exp = 0
    · subst h0
      cases neg
      all_goals
        go_enter Tryz.func10, Tryz.ntmps10
        go_wp2_with (first
          | (go_at_call_of 22 a; refine (HR.out.2.1 _ HB1.out).mono ?_; rintro e w2 ⟨a2, n2, c2, rfl, hn2, hD, hb2⟩; have HB2 := Lib.hid (And.intro hD (And.intro hb2 hn2)); clear hb2 hD hn2)
          | (go_at_call_of 21 a2; refine (refdec_dig a2 n2 c2 v _ HB2.out.1 (by have := HB2.out.2.2; omega)).mono ?_; rintro e w3 ⟨rfl, hb3⟩; have hbx := Below.next0 (Below.next0 HR0.out HB2.out.2.1) hb3; have hQ := HR.out.2.2.1.step hbx hl0; have hg0 := hQ.c0; have hg1 := hQ.c1; have HB3 := Lib.hid hbx; clear hb3 hbx hQ)
          | (refine HR.out.1.mono ?_; rintro e w1 ⟨rfl, hb1⟩; have hQ := HR.out.2.2.1.step hb1 hl0; have hg2 := hQ.c2; have HB1 := Lib.hid (Below.next0 HR.out.2.2.2 hb1); have HR0 := Lib.hid hb1; clear hb1 hQ))
        go_ret
        refine ⟨?_, Below.next0 HR.out.2.2.2 HB3.out⟩
        refine congrArg Ending.returned (congrArg Value.string (ByteArray.ext ?_))
        simp [ByteArray.data_append, textN, expT]
    · obtain ⟨m, hm⟩ : ∃ m : Nat, exp.natAbs = m := ⟨_, rfl⟩
      have hm0 : 0 < m := by omega
      have hm1 : m ≤ 65536 := by omega
      have hml := dec_len 5 m (by omega) (by decide)
      by_cases hneg : exp < 0
      · obtain rfl : exp = -(m : Int) := by omega
        have hm0' : m ≠ 0 := by omega
        clear hm he he2 hex
        cases neg
        all_goals
          go_enter Tryz.func10, Tryz.ntmps10
          go_wp2_with (first
            | (go_at_call_of 22 a; refine (HR.out.2.1 _ HB1.out).mono ?_; rintro e w2 ⟨a2, n2, c2, rfl, hn2, hD, hb2⟩; have HB2 := Lib.hid (And.intro hD (And.intro hb2 hn2)); clear hb2 hD hn2)
            | (go_at_call_of 21 a2; refine (refdec_dig a2 n2 c2 v _ HB2.out.1 (by have := HB2.out.2.2; omega)).mono ?_; rintro e w3 ⟨rfl, hb3⟩; have hbx := Below.next0 (Below.next0 HR0.out HB2.out.2.1) hb3; have hQ := HR.out.2.2.1.step hbx hl0; have hg0 := hQ.c0; have hg1 := hQ.c1; have HB3 := Lib.hid hbx; clear hb3 hbx hQ)
            | (refine (refpart_dig _ 1 1 [m] _ (words_one _ m (by omega) 40) (by decide)).mono ?_; rintro e w4 ⟨a4, n4, c4, rfl, hn4, hD, hb4⟩; rw [val_one] at hD; have HB4 := Lib.hid (And.intro hD hb4); clear hb4 hD)
            | (go_at_call_of 21 a4; refine (refdec_dig a4 n4 c4 m _ HB4.out.1 (by omega)).mono ?_; rintro e w5 ⟨rfl, hb5⟩; have HB5 := Lib.hid (Below.next0 (Below.next0 (Below.next0 HB3.out ((Below.refl _ _).alloc (Nat.le_refl _) _)) HB4.out.2) hb5); clear hb5)
            | (refine HR.out.1.mono ?_; rintro e w1 ⟨rfl, hb1⟩; have hQ := HR.out.2.2.1.step hb1 hl0; have hg2 := hQ.c2; have HB1 := Lib.hid (Below.next0 HR.out.2.2.2 hb1); have HR0 := Lib.hid hb1; clear hb1 hQ))
          go_ret
          refine ⟨?_, Below.next0 HR.out.2.2.2 HB5.out⟩
          refine congrArg Ending.returned (congrArg Value.string (ByteArray.ext ?_))
          simp [ByteArray.data_append, textN, expT, hm0']
      · obtain rfl : exp = (m : Int) := by omega
        have hm0' : m ≠ 0 := by omega
        clear hm he he2 hex
        cases neg
        all_goals
          go_enter Tryz.func10, Tryz.ntmps10
          go_wp2_with (first
            | (go_at_call_of 22 a; refine (HR.out.2.1 _ HB1.out).mono ?_; rintro e w2 ⟨a2, n2, c2, rfl, hn2, hD, hb2⟩; have HB2 := Lib.hid (And.intro hD (And.intro hb2 hn2)); clear hb2 hD hn2)
            | (go_at_call_of 21 a2; refine (refdec_dig a2 n2 c2 v _ HB2.out.1 (by have := HB2.out.2.2; omega)).mono ?_; rintro e w3 ⟨rfl, hb3⟩; have hbx := Below.next0 (Below.next0 HR0.out HB2.out.2.1) hb3; have hQ := HR.out.2.2.1.step hbx hl0; have hg0 := hQ.c0; have hg1 := hQ.c1; have HB3 := Lib.hid hbx; clear hb3 hbx hQ)
            | (refine (refpart_dig _ 1 1 [m] _ (words_one _ m (by omega) 40) (by decide)).mono ?_; rintro e w4 ⟨a4, n4, c4, rfl, hn4, hD, hb4⟩; rw [val_one] at hD; have HB4 := Lib.hid (And.intro hD hb4); clear hb4 hD)
            | (go_at_call_of 21 a4; refine (refdec_dig a4 n4 c4 m _ HB4.out.1 (by omega)).mono ?_; rintro e w5 ⟨rfl, hb5⟩; have HB5 := Lib.hid (Below.next0 (Below.next0 (Below.next0 HB3.out ((Below.refl _ _).alloc (Nat.le_refl _) _)) HB4.out.2) hb5); clear hb5)
            | (refine HR.out.1.mono ?_; rintro e w1 ⟨rfl, hb1⟩; have hQ := HR.out.2.2.1.step hb1 hl0; have hg2 := hQ.c2; have HB1 := Lib.hid (Below.next0 HR.out.2.2.2 hb1); have HR0 := Lib.hid hb1; clear hb1 hQ))
          go_ret
          refine ⟨?_, Below.next0 HR.out.2.2.2 HB5.out⟩
          refine congrArg Ending.returned (congrArg Value.string (ByteArray.ext ?_))
          simp [ByteArray.data_append, textN, expT, hm0']
  · have htx : textOut neg exp ls = [] := if_neg hnum
    rw [htx]
    rw [decide_eq_false hnum] at hr
    have HR := Lib.hid (And.intro hr (And.intro hN hB0))
    clear hr htx hnum h hN hB0
    go_enter Tryz.func10, Tryz.ntmps10
    go_wp2_with (refine HR.out.1.mono ?_; rintro e w1 ⟨rfl, hb1⟩; have HB1 := Lib.hid (Below.next0 HR.out.2.2 hb1); clear hb1)
    go_ret
    exact ⟨rfl, HB1.out⟩
end Go.Proofs.YtmocmkfpblakbaaGreatDoor
