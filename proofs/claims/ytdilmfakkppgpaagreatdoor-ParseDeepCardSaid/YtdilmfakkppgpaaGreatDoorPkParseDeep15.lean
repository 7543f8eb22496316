/- Part 15 of the proof of LawParseDeep: DigF, RdrB, RdrC. Condition: as each theorem says; none at the end. -/
import Derived.Deep.CutBlock
import Derived.Deep.DeepCutAuto
import Derived.Test.YtdilmfakkppgpaaGreatDoorPkParseDeep05
import Derived.Test.YtdilmfakkppgpaaGreatDoorPkParseDeep14
namespace Go.Proofs.YtdilmfakkppgpaaGreatDoor
open Go.RowKit WordsM DecM
theorem expo_bound (l : List UInt8) (x : Int) (h : expo l = some x) : -1000000 ≤ x ∧ x ≤ 1000000 := by
  cases l with
  | nil => rw [expo] at h; injection h with h; omega
  | cons c r =>
    rw [expo] at h
    split at h
    · cases h
    · split at h
      · cases h
      · rename_i h2
        have hd : allD (minus r).2 := by
          have h3 := digN_take (minus r).2
          rw [List.take_of_length_le (by omega)] at h3
          exact h3
        have hb : dv (minus r).2 < 10 ^ 6 := Nat.lt_of_lt_of_le (dv_lt _ hd) (Nat.pow_le_pow_right (by decide) (by omega))
        have e6 : (10 : Nat) ^ 6 = 1000000 := rfl
        rw [e6] at hb
        injection h with h
        split at h <;> omega
def NumResN (w0 : World) (Φ : Bool → Int → List Nat → Int → Prop) (r : Ending) (w' : World) : Prop :=
  ∃ neg' e' a' n' c' L er, r = .returned (.tuple #[.agg #[.bool neg', .int .i64 e', .slice a' n' c'], .int .i64 er]) ∧ Φ neg' e' L er ∧ NewIn w0 w' a' n' c' L ∧ Below w0.heap.size w0 w'
theorem NumResN.of {w0 w' : World} {Φ : Bool → Int → List Nat → Int → Prop} {neg' : Bool} {e' : Int} {a' : Option Addr} {n' c' : Nat} {L : List Nat} {er : Int} (h1 : Φ neg' e' L er) (h2 : NewIn w0 w' a' n' c' L) (h3 : Below w0.heap.size w0 w') :
    NumResN w0 Φ (.returned (.tuple #[.agg #[.bool neg', .int .i64 e', .slice a' n' c'], .int .i64 er])) w' := ⟨neg', e', a', n', c', L, er, rfl, h1, h2, h3⟩
set_option maxRecDepth 100000 in
set_option maxHeartbeats 8000000 in
theorem parse_new (s : ByteArray) (w : World) (hs : s.size ≤ 281474976710656) (hTI : TabIn w) :
    Calls Tryz.prog 230 #[.string s] w (NumResN w (ParseOut s.data.toList)) := by
  have hlen : s.data.toList.length = s.size := rfl
  have hB0 : Below w.heap.size w (w.alloc (.cells #[.bool false, .int .i64 0, .slice none 0 0] 41)) := (Below.refl _ _).alloc (Nat.le_refl _) _
  have hN0 := NumBox.new w (.bool false) (.int .i64 0) (.slice none 0 0) 41
  have hl0 := box_lt w (.cells #[.bool false, .int .i64 0, .slice none 0 0] 41)
  have HW := Lib.hid (And.intro hB0 hN0)
  have HTI := Lib.hid hTI
  have hq := pre_minus s.data.toList
  obtain ⟨neg, t, hmt⟩ : ∃ neg t, minus s.data.toList = (neg, t) := ⟨_, _, rfl⟩
  have htl : t.length ≤ s.size := by
    have h1 : (minus s.data.toList).2.length ≤ s.data.toList.length := by
      cases s.data.toList with
      | nil => simp [minus]
      | cons x y => simp only [minus]; split <;> simp
    rw [hmt] at h1; exact h1
  have hfo : form s.data.toList = form s.data.toList := rfl
  conv at hfo => rhs; unfold form
  rw [hmt] at hfo
  simp only at hfo
  have hc1 : ∀ W, Calls Tryz.prog 233 #[.string s, .string ⟨#[45]⟩] W fun e w' => e = .returned (.tuple #[.string ⟨t.toArray⟩, .bool neg]) ∧ W = w' := fun W => (Tryz.strings_CutPrefix s ⟨#[45]⟩ W).mono (by
    rintro e w' ⟨rfl, rfl⟩
    refine ⟨?_, rfl⟩
    show Ending.returned (.tuple #[.string ⟨(Lib.trimPrefix s.data.toList [45]).toArray⟩, .bool (Lib.hasPrefix s.data.toList [45])]) = _
    rw [hq.1, hq.2, hmt])
  obtain ⟨T, hT⟩ : ∃ T : ByteArray, T = ⟨t.toArray⟩ := ⟨_, rfl⟩
  have hTs : T.size = t.length := by rw [hT]; rfl
  have hTl : T.data.toList = t := by rw [hT]
  rw [← hT] at hc1
  have hrun := fun W => run_any T W (by omega)
  obtain ⟨k, hk⟩ : ∃ k, digN t = k := ⟨_, rfl⟩
  have hkl := digN_le t
  have hta := digN_take t
  rw [hk] at hkl hfo hta
  have HK := Lib.hid hk
  have HT := Lib.hid (And.intro hTs hTl)
  have HC := Lib.hid (And.intro hc1 hrun)
  have HFO := Lib.hid hfo
  have HTA := Lib.hid hta
  clear hq hmt hfo hc1 hrun hk hT hB0 hN0 hTI hlen hta
  by_cases h1 : k < 1
  · skip
    have hkI : (k : Int) < 1 := by omega
    have hF : form s.data.toList = none := by rw [HFO.out, if_pos (.inl h1)]
    have HF := Lib.hid hF
    clear hF hTs hTl
    go_enter Tryz.func230, Tryz.ntmps230
    go_wp2_with (first
      | (go_at_call_of 233 (Value.string s); refine (HC.out.1 _).mono ?_; rintro e w1 ⟨rfl, rfl⟩)
      | (go_at_call_of 234 (Value.string T); refine (HC.out.2 _).mono ?_; rintro e w2 ⟨⟨k', rfl, hk'⟩, hb2⟩; obtain rfl : k = k' := by { rw [← HK.out, ← HT.out.2]; exact isrun_digN hk' }; have hNN := HW.out.2.step hb2 hl0; have hc0 := hNN.c0; have hc1 := hNN.c1; have hc2 := hNN.c2; have hf0 := hNN.f0; have hf1 := hNN.f1; have hf2 := hNN.f2; have hd1' := hNN.d1 (.bool false); have hd2' := hNN.d2 (.bool false) (.int .i64 0); have HB2 := Lib.hid (And.intro hNN (And.intro hb2 (Below.next0 HW.out.1 hb2))); clear hNN hb2 hk'))
    have hS5 := HB2.out.1.store (.bool false) (.int .i64 0) (.slice none 0 0)
    have k0 := hS5.c0
    have k1 := hS5.c1
    have k2 := hS5.c2
    have hb5 := NumBox.below HB2.out.2.2 (Nat.le_refl _) (.bool false) (.int .i64 0) (.slice none 0 0)
    clear hS5 hc0 hc1 hc2 hf0 hf1 hf2 hd1' hd2'
    generalize World.setCell _ _ _ = W5 at k0 k1 k2 hb5 ⊢
    refine ⟨rfl, .tuple #[.agg #[.bool false, .int .i64 0, .slice none 0 0], .int .i64 5], by simp [results, go_sem, k0, k1, k2], NumResN.of (ParseOut.none_ HF.out) (NewIn.nil_ _ _) hb5⟩
  · have hkI : ¬ (k : Int) < 1 := by omega
    by_cases h13 : 1300 < k
    · skip
      have hk13 : (1300 : Int) < (k : Int) := by omega
      have hF : form s.data.toList = none := by rw [HFO.out, if_pos (.inr (.inl h13))]
      have HF := Lib.hid hF
      clear hF hTs hTl
      go_enter Tryz.func230, Tryz.ntmps230
      go_wp2_with (first
        | (go_at_call_of 233 (Value.string s); refine (HC.out.1 _).mono ?_; rintro e w1 ⟨rfl, rfl⟩)
        | (go_at_call_of 234 (Value.string T); refine (HC.out.2 _).mono ?_; rintro e w2 ⟨⟨k', rfl, hk'⟩, hb2⟩; obtain rfl : k = k' := by { rw [← HK.out, ← HT.out.2]; exact isrun_digN hk' }; have hNN := HW.out.2.step hb2 hl0; have hc0 := hNN.c0; have hc1 := hNN.c1; have hc2 := hNN.c2; have hf0 := hNN.f0; have hf1 := hNN.f1; have hf2 := hNN.f2; have hd1' := hNN.d1 (.bool false); have hd2' := hNN.d2 (.bool false) (.int .i64 0); have HB2 := Lib.hid (And.intro hNN (And.intro hb2 (Below.next0 HW.out.1 hb2))); clear hNN hb2 hk'))
      have hS5 := HB2.out.1.store (.bool false) (.int .i64 0) (.slice none 0 0)
      have k0 := hS5.c0
      have k1 := hS5.c1
      have k2 := hS5.c2
      have hb5 := NumBox.below HB2.out.2.2 (Nat.le_refl _) (.bool false) (.int .i64 0) (.slice none 0 0)
      clear hS5 hc0 hc1 hc2 hf0 hf1 hf2 hd1' hd2'
      generalize World.setCell _ _ _ = W5 at k0 k1 k2 hb5 ⊢
      refine ⟨rfl, .tuple #[.agg #[.bool false, .int .i64 0, .slice none 0 0], .int .i64 5], by simp [results, go_sem, k0, k1, k2], NumResN.of (ParseOut.none_ HF.out) (NewIn.nil_ _ _) hb5⟩
    · have hk13 : ¬ (1300 : Int) < (k : Int) := by omega
      have hT0 : 0 < T.size := by omega
      have hhd : t.headD 0 = (T[0]'hT0) := by
        have h := head_at (s := T) (at_ := 0) hT0
        rw [List.drop_zero, HT.out.2] at h
        exact h
      have HHD := Lib.hid hhd
      clear hhd
      by_cases hz : (T[0]'hT0) = 48 ∧ (neg = true ∨ 1 < t.length)
      · obtain ⟨h48, hz2⟩ := hz
        have h48' : (((T[0]'hT0).toNat : Int) == 48) = true := by rw [h48]; rfl
        cases neg
        · have h1l : 1 < t.length := by rcases hz2 with h | h; cases h; exact h
          have h1I : (1 : Int) < (T.size : Int) := by omega
          have hF : form s.data.toList = none := by rw [HFO.out, if_pos (.inr (.inr ⟨by rw [HHD.out]; exact h48, .inr h1l⟩))]
          have HF := Lib.hid hF
          clear hF hTs hTl h48 hz2
          go_enter Tryz.func230, Tryz.ntmps230
          go_wp2_with (first
            | (go_at_call_of 233 (Value.string s); refine (HC.out.1 _).mono ?_; rintro e w1 ⟨rfl, rfl⟩)
            | (go_at_call_of 234 (Value.string T); refine (HC.out.2 _).mono ?_; rintro e w2 ⟨⟨k', rfl, hk'⟩, hb2⟩; obtain rfl : k = k' := by { rw [← HK.out, ← HT.out.2]; exact isrun_digN hk' }; have hNN := HW.out.2.step hb2 hl0; have hc0 := hNN.c0; have hc1 := hNN.c1; have hc2 := hNN.c2; have hf0 := hNN.f0; have hf1 := hNN.f1; have hf2 := hNN.f2; have hd1' := hNN.d1 (.bool false); have hd2' := hNN.d2 (.bool false) (.int .i64 0); have HB2 := Lib.hid (And.intro hNN (And.intro hb2 (Below.next0 HW.out.1 hb2))); clear hNN hb2 hk'))
          have hS5 := HB2.out.1.store (.bool false) (.int .i64 0) (.slice none 0 0)
          have k0 := hS5.c0
          have k1 := hS5.c1
          have k2 := hS5.c2
          have hb5 := NumBox.below HB2.out.2.2 (Nat.le_refl _) (.bool false) (.int .i64 0) (.slice none 0 0)
          clear hS5 hc0 hc1 hc2 hf0 hf1 hf2 hd1' hd2'
          generalize World.setCell _ _ _ = W5 at k0 k1 k2 hb5 ⊢
          refine ⟨rfl, .tuple #[.agg #[.bool false, .int .i64 0, .slice none 0 0], .int .i64 5], by simp [results, go_sem, k0, k1, k2], NumResN.of (ParseOut.none_ HF.out) (NewIn.nil_ _ _) hb5⟩
        · skip
          have hF : form s.data.toList = none := by rw [HFO.out, if_pos (.inr (.inr ⟨by rw [HHD.out]; exact h48, .inl rfl⟩))]
          have HF := Lib.hid hF
          clear hF hTs hTl h48 hz2
          go_enter Tryz.func230, Tryz.ntmps230
          go_wp2_with (first
            | (go_at_call_of 233 (Value.string s); refine (HC.out.1 _).mono ?_; rintro e w1 ⟨rfl, rfl⟩)
            | (go_at_call_of 234 (Value.string T); refine (HC.out.2 _).mono ?_; rintro e w2 ⟨⟨k', rfl, hk'⟩, hb2⟩; obtain rfl : k = k' := by { rw [← HK.out, ← HT.out.2]; exact isrun_digN hk' }; have hNN := HW.out.2.step hb2 hl0; have hc0 := hNN.c0; have hc1 := hNN.c1; have hc2 := hNN.c2; have hf0 := hNN.f0; have hf1 := hNN.f1; have hf2 := hNN.f2; have hd1' := hNN.d1 (.bool false); have hd2' := hNN.d2 (.bool false) (.int .i64 0); have HB2 := Lib.hid (And.intro hNN (And.intro hb2 (Below.next0 HW.out.1 hb2))); clear hNN hb2 hk'))
          have hS5 := HB2.out.1.store (.bool false) (.int .i64 0) (.slice none 0 0)
          have k0 := hS5.c0
          have k1 := hS5.c1
          have k2 := hS5.c2
          have hb5 := NumBox.below HB2.out.2.2 (Nat.le_refl _) (.bool false) (.int .i64 0) (.slice none 0 0)
          clear hS5 hc0 hc1 hc2 hf0 hf1 hf2 hd1' hd2'
          generalize World.setCell _ _ _ = W5 at k0 k1 k2 hb5 ⊢
          refine ⟨rfl, .tuple #[.agg #[.bool false, .int .i64 0, .slice none 0 0], .int .i64 5], by simp [results, go_sem, k0, k1, k2], NumResN.of (ParseOut.none_ HF.out) (NewIn.nil_ _ _) hb5⟩
      · have hfo := HFO.out
        rw [if_neg (by rintro (h | h | h); exact h1 h; exact h13 h; (rw [HHD.out] at h; exact hz h))] at hfo
        obtain ⟨u, hu⟩ : ∃ u : ByteArray, T.extract 0 k = u := ⟨_, rfl⟩
        obtain ⟨rest, hrest⟩ : ∃ r : ByteArray, T.extract k T.size = r := ⟨_, rfl⟩
        have hul : u.data.toList = t.take k := by rw [← hu, ext_take, HT.out.2]
        have hrl : rest.data.toList = t.drop k := by rw [← hrest, ext_drop, HT.out.2]
        have hus : u.size = k := by
          have : u.data.toList.length = u.size := rfl
          rw [← this, hul, List.length_take]; omega
        have hrs : rest.size ≤ T.size := by
          have : rest.data.toList.length = rest.size := rfl
          rw [← this, hrl, List.length_drop]; omega
        rw [← hul, ← hrl] at hfo
        have hau : allD u.data.toList := by rw [hul]; exact HTA.out
        have hpw := fun W => power_any rest W (by omega)
        have hwd := fun W => words_any u W (by omega) hau
        have hvl : (dig (2 ^ 64) (dv u.data.toList)).length ≤ 1300 := by
          have h := dig_len_le (B := 2 ^ 64) (by decide) (Nat.lt_of_lt_of_le (dv_lt u.data.toList hau) (Nat.pow_le_pow_left (by decide) u.data.toList.length))
          have : u.data.toList.length = u.size := rfl
          omega
        have HP := Lib.hid (And.intro hpw (And.intro hwd (And.intro hfo hvl)))
        have HZ := Lib.hid hz
        clear hpw hwd hfo hvl hau hul hrl hrs hus hz HFO
        have hfo2 := HP.out.2.2.1
        have hkT : (k : Int) ≤ (T.size : Int) := by omega
        cases hex : expo rest.data.toList with
        | none =>
          have hpw : ∀ W, Calls Tryz.prog 235 #[.string rest] W fun e w' => ∃ x : Int, e = .returned (.tuple #[.int .i64 x, .bool false]) ∧ Below W.heap.size W w' := fun W => (HP.out.1 W).mono (by
            rintro e w' ⟨⟨x, ok, rfl, ⟨_, h, _⟩ | ⟨rfl, _⟩⟩, hb⟩
            · rw [hex] at h; cases h
            · exact ⟨x, rfl, hb⟩)
          rw [hex] at hfo2
          have HPW := Lib.hid hpw
          have HF := Lib.hid (show form s.data.toList = none from hfo2)
          clear hpw hfo2 hex
          by_cases h48 : (T[0]'hT0) = 48
          · have h48' : (((T[0]'hT0).toNat : Int) == 48) = true := by rw [h48]; rfl
            obtain rfl : neg = false := by
              cases neg
              · rfl
              · exact absurd ⟨h48, .inl rfl⟩ HZ.out
            have h1I : ¬ (1 : Int) < (T.size : Int) := fun h => HZ.out ⟨h48, .inr (by omega)⟩
            clear h48 hTs hTl
            go_enter Tryz.func230, Tryz.ntmps230
            go_wp2_with (first
              | (go_at_call_of 233 (Value.string s); refine (HC.out.1 _).mono ?_; rintro e w1 ⟨rfl, rfl⟩)
              | (go_at_call_of 234 (Value.string T); refine (HC.out.2 _).mono ?_; rintro e w2 ⟨⟨k', rfl, hk'⟩, hb2⟩; obtain rfl : k = k' := by { rw [← HK.out, ← HT.out.2]; exact isrun_digN hk' }; have HB2 := Lib.hid hb2; clear hb2 hk')
              | (refine (HPW.out _).mono ?_; rintro e w3 ⟨x, rfl, hb3⟩; have hbx := Below.next0 HB2.out hb3; have hNN := HW.out.2.step hbx hl0; have hc0 := hNN.c0; have hc1 := hNN.c1; have hc2 := hNN.c2; have hf0 := hNN.f0; have hf1 := hNN.f1; have hf2 := hNN.f2; have hd1' := hNN.d1 (.bool false); have hd2' := hNN.d2 (.bool false) (.int .i64 0); have HB3 := Lib.hid (And.intro hNN (Below.next0 HW.out.1 hbx)); clear hNN hb3 hbx))
            have hS5 := HB3.out.1.store (.bool false) (.int .i64 0) (.slice none 0 0)
            have k0 := hS5.c0
            have k1 := hS5.c1
            have k2 := hS5.c2
            have hb5 := NumBox.below HB3.out.2 (Nat.le_refl _) (.bool false) (.int .i64 0) (.slice none 0 0)
            clear hS5 hc0 hc1 hc2 hf0 hf1 hf2 hd1' hd2'
            generalize World.setCell _ _ _ = W5 at k0 k1 k2 hb5 ⊢
            refine ⟨rfl, .tuple #[.agg #[.bool false, .int .i64 0, .slice none 0 0], .int .i64 5], by simp [results, go_sem, k0, k1, k2], NumResN.of (ParseOut.none_ HF.out) (NewIn.nil_ _ _) hb5⟩
          · have h48' : (((T[0]'hT0).toNat : Int) == 48) = false := by rw [beq_eq_false_iff_ne]; intro e; exact h48 (UInt8.toNat_inj.1 (show (T[0]'hT0).toNat = 48 by omega))
            clear h48 hTs hTl
            go_enter Tryz.func230, Tryz.ntmps230
            go_wp2_with (first
              | (go_at_call_of 233 (Value.string s); refine (HC.out.1 _).mono ?_; rintro e w1 ⟨rfl, rfl⟩)
              | (go_at_call_of 234 (Value.string T); refine (HC.out.2 _).mono ?_; rintro e w2 ⟨⟨k', rfl, hk'⟩, hb2⟩; obtain rfl : k = k' := by { rw [← HK.out, ← HT.out.2]; exact isrun_digN hk' }; have HB2 := Lib.hid hb2; clear hb2 hk')
              | (refine (HPW.out _).mono ?_; rintro e w3 ⟨x, rfl, hb3⟩; have hbx := Below.next0 HB2.out hb3; have hNN := HW.out.2.step hbx hl0; have hc0 := hNN.c0; have hc1 := hNN.c1; have hc2 := hNN.c2; have hf0 := hNN.f0; have hf1 := hNN.f1; have hf2 := hNN.f2; have hd1' := hNN.d1 (.bool false); have hd2' := hNN.d2 (.bool false) (.int .i64 0); have HB3 := Lib.hid (And.intro hNN (Below.next0 HW.out.1 hbx)); clear hNN hb3 hbx))
            have hS5 := HB3.out.1.store (.bool false) (.int .i64 0) (.slice none 0 0)
            have k0 := hS5.c0
            have k1 := hS5.c1
            have k2 := hS5.c2
            have hb5 := NumBox.below HB3.out.2 (Nat.le_refl _) (.bool false) (.int .i64 0) (.slice none 0 0)
            clear hS5 hc0 hc1 hc2 hf0 hf1 hf2 hd1' hd2'
            generalize World.setCell _ _ _ = W5 at k0 k1 k2 hb5 ⊢
            refine ⟨rfl, .tuple #[.agg #[.bool false, .int .i64 0, .slice none 0 0], .int .i64 5], by simp [results, go_sem, k0, k1, k2], NumResN.of (ParseOut.none_ HF.out) (NewIn.nil_ _ _) hb5⟩
        | some ex =>
          have hexb : -1000000 ≤ ex ∧ ex ≤ 1000000 := by
            have h := expo_bound rest.data.toList ex hex
            exact h
          obtain ⟨hex1, hex2⟩ := hexb
          have hpw : ∀ W, Calls Tryz.prog 235 #[.string rest] W fun e w' => e = .returned (.tuple #[.int .i64 ex, .bool true]) ∧ Below W.heap.size W w' := fun W => (HP.out.1 W).mono (by
            rintro e w' ⟨⟨x, ok, rfl, ⟨rfl, h, _⟩ | ⟨_, h⟩⟩, hb⟩
            · rw [hex] at h; injection h with h; subst h; exact ⟨rfl, hb⟩
            · rw [hex] at h; cases h)
          rw [hex] at hfo2
          have HPW := Lib.hid hpw
          have HF := Lib.hid (show form s.data.toList = some (neg, dv u.data.toList, ex) from hfo2)
          clear hpw hfo2 hex
          by_cases h48 : (T[0]'hT0) = 48
          · have h48' : (((T[0]'hT0).toNat : Int) == 48) = true := by rw [h48]; rfl
            obtain rfl : neg = false := by
              cases neg
              · rfl
              · exact absurd ⟨h48, .inl rfl⟩ HZ.out
            have h1I : ¬ (1 : Int) < (T.size : Int) := fun h => HZ.out ⟨h48, .inr (by omega)⟩
            clear h48 hTs hTl
            go_enter Tryz.func230, Tryz.ntmps230
            go_wp2_with (first
              | (go_at_call_of 233 (Value.string s); refine (HC.out.1 _).mono ?_; rintro e w1 ⟨rfl, rfl⟩)
              | (go_at_call_of 234 (Value.string T); refine (HC.out.2 _).mono ?_; rintro e w2 ⟨⟨k', rfl, hk'⟩, hb2⟩; obtain rfl : k = k' := by { rw [← HK.out, ← HT.out.2]; exact isrun_digN hk' }; have HB2 := Lib.hid hb2; clear hb2 hk')
              | (go_at_call_of 235 (Value.string rest); refine (HPW.out _).mono ?_; rintro e w3 ⟨rfl, hb3⟩; have HB3 := Lib.hid (Below.next0 HB2.out hb3); clear hb3)
              | (go_at_call_of 236 (Value.string u); refine (HP.out.2.1 _).mono ?_; rintro e w4 ⟨a4, n4, c4, rfl, hW4, hb4⟩; have HB4 := Lib.hid (And.intro hW4 (Below.next0 HB3.out hb4)); clear hW4 hb4)
              | (refine (nummake_any false a4 n4 c4 _ ex w4 HB4.out.1 (HTI.out.step (Below.next0 HW.out.1 HB4.out.2)) (by rw [← HB4.out.1.len]; exact Nat.le_trans HP.out.2.2.2 (by decide)) (by omega) (by omega)).mono ?_; rintro e w5 ⟨neg5, e5, a5, n5, c5, L, er, rfl, hmo, hW5, hb5⟩; rw [val_dig (by decide)] at hmo; have hbx := Below.next0 HB4.out.2 hb5; have hNN := HW.out.2.step hbx hl0; have hc0 := hNN.c0; have hc1 := hNN.c1; have hc2 := hNN.c2; have hf0 := hNN.f0; have hf1 := hNN.f1; have hf2 := hNN.f2; have hd1' := hNN.d1 (.bool neg5); have hd2' := hNN.d2 (.bool neg5) (.int .i64 e5); have HB5 := Lib.hid (And.intro hNN (And.intro (Below.next0 HW.out.1 hbx) (And.intro hW5 hmo))); clear hNN hb5 hbx hW5 hmo))
            have hS5 := HB5.out.1.store (.bool neg5) (.int .i64 e5) (.slice a5 n5 c5)
            have k0 := hS5.c0
            have k1 := hS5.c1
            have k2 := hS5.c2
            have hb6 := NumBox.below HB5.out.2.1 (Nat.le_refl _) (.bool neg5) (.int .i64 e5) (.slice a5 n5 c5)
            have hWw := HB5.out.2.2.1
            have hW6 : WordsIn _ a5 n5 c5 L := ⟨hWw.len, hWw.cap, hWw.most, hWw.low, (hWw.rd.store3 HB5.out.1 (fun _ => by simp [nv]) (fun _ => by simp [nv]) (fun _ => by simp [nv]) (.bool neg5) (.int .i64 e5) (.slice a5 n5 c5)).more (box_size _ _ _ _ _)⟩
            clear hS5 hc0 hc1 hc2 hf0 hf1 hf2 hd1' hd2' hWw
            generalize World.setCell _ _ _ = W5 at k0 k1 k2 hb6 hW6 ⊢
            refine ⟨rfl, .tuple #[.agg #[.bool neg5, .int .i64 e5, .slice a5 n5 c5], .int .i64 er], by simp [results, go_sem, k0, k1, k2], NumResN.of (ParseOut.some_ HF.out HB5.out.2.2.2) ((HB5.out.2.2.1.lower (Below.next0 HW.out.1 HB4.out.2).size).on hW6) hb6⟩
          · have h48' : (((T[0]'hT0).toNat : Int) == 48) = false := by rw [beq_eq_false_iff_ne]; intro e; exact h48 (UInt8.toNat_inj.1 (show (T[0]'hT0).toNat = 48 by omega))
            clear h48 hTs hTl
            go_enter Tryz.func230, Tryz.ntmps230
            go_wp2_with (first
              | (go_at_call_of 233 (Value.string s); refine (HC.out.1 _).mono ?_; rintro e w1 ⟨rfl, rfl⟩)
              | (go_at_call_of 234 (Value.string T); refine (HC.out.2 _).mono ?_; rintro e w2 ⟨⟨k', rfl, hk'⟩, hb2⟩; obtain rfl : k = k' := by { rw [← HK.out, ← HT.out.2]; exact isrun_digN hk' }; have HB2 := Lib.hid hb2; clear hb2 hk')
              | (go_at_call_of 235 (Value.string rest); refine (HPW.out _).mono ?_; rintro e w3 ⟨rfl, hb3⟩; have HB3 := Lib.hid (Below.next0 HB2.out hb3); clear hb3)
              | (go_at_call_of 236 (Value.string u); refine (HP.out.2.1 _).mono ?_; rintro e w4 ⟨a4, n4, c4, rfl, hW4, hb4⟩; have HB4 := Lib.hid (And.intro hW4 (Below.next0 HB3.out hb4)); clear hW4 hb4)
              | (refine (nummake_any neg a4 n4 c4 _ ex w4 HB4.out.1 (HTI.out.step (Below.next0 HW.out.1 HB4.out.2)) (by rw [← HB4.out.1.len]; exact Nat.le_trans HP.out.2.2.2 (by decide)) (by omega) (by omega)).mono ?_; rintro e w5 ⟨neg5, e5, a5, n5, c5, L, er, rfl, hmo, hW5, hb5⟩; rw [val_dig (by decide)] at hmo; have hbx := Below.next0 HB4.out.2 hb5; have hNN := HW.out.2.step hbx hl0; have hc0 := hNN.c0; have hc1 := hNN.c1; have hc2 := hNN.c2; have hf0 := hNN.f0; have hf1 := hNN.f1; have hf2 := hNN.f2; have hd1' := hNN.d1 (.bool neg5); have hd2' := hNN.d2 (.bool neg5) (.int .i64 e5); have HB5 := Lib.hid (And.intro hNN (And.intro (Below.next0 HW.out.1 hbx) (And.intro hW5 hmo))); clear hNN hb5 hbx hW5 hmo))
            have hS5 := HB5.out.1.store (.bool neg5) (.int .i64 e5) (.slice a5 n5 c5)
            have k0 := hS5.c0
            have k1 := hS5.c1
            have k2 := hS5.c2
            have hb6 := NumBox.below HB5.out.2.1 (Nat.le_refl _) (.bool neg5) (.int .i64 e5) (.slice a5 n5 c5)
            have hWw := HB5.out.2.2.1
            have hW6 : WordsIn _ a5 n5 c5 L := ⟨hWw.len, hWw.cap, hWw.most, hWw.low, (hWw.rd.store3 HB5.out.1 (fun _ => by simp [nv]) (fun _ => by simp [nv]) (fun _ => by simp [nv]) (.bool neg5) (.int .i64 e5) (.slice a5 n5 c5)).more (box_size _ _ _ _ _)⟩
            clear hS5 hc0 hc1 hc2 hf0 hf1 hf2 hd1' hd2' hWw
            generalize World.setCell _ _ _ = W5 at k0 k1 k2 hb6 hW6 ⊢
            refine ⟨rfl, .tuple #[.agg #[.bool neg5, .int .i64 e5, .slice a5 n5 c5], .int .i64 er], by simp [results, go_sem, k0, k1, k2], NumResN.of (ParseOut.some_ HF.out HB5.out.2.2.2) ((HB5.out.2.2.1.lower (Below.next0 HW.out.1 HB4.out.2).size).on hW6) hb6⟩
end Go.Proofs.YtdilmfakkppgpaaGreatDoor
namespace Go.Proofs.YtdilmfakkppgpaaGreatDoor
open Go.RowKit WordsM DecM
theorem pre_byte (L : List UInt8) (k : Nat) {c : UInt8} (hc : c ≠ 0) : Lib.hasPrefix (L.drop k) [c] = decide (byteAt L k = c) := by
  rw [(pre_one (L.drop k) c).1]
  by_cases hk : k < L.length
  · rw [List.drop_eq_getElem_cons hk]
    simp only
    rw [byteAt_get hk]
  · rw [List.drop_of_length_le (by omega)]
    simp only
    symm
    rw [decide_eq_false_iff_not]
    intro h
    exact hk (byteAt_of h hc)
theorem NewIn.off {w0 w : World} {a : Option Addr} {n c : Nat} {L : List Nat} (h : NewIn w0 w a n c L) : OffW (· < w0.heap.size) a L := h.new.imp id fun h2 x hx => Nat.not_lt_of_le (h2 x hx)
theorem below_drewN0 (w : World) (k : Nat) : Below w.heap.size w (w.drewN k) := ⟨rfl, rfl, rfl, Nat.le_refl _, fun _ _ => rfl⟩
def NumCut (S : List UInt8) (w : World) (s4 s5 : Value) (wx : World) : Prop := ∃ v n' e' a' l' c' Lw er, s4 = .pointer (some ⟨v, 0, none⟩) ∧ s5 = .int .i64 er ∧ ParseOut S n' e' Lw er ∧ NumBox wx v (.bool n') (.int .i64 e') (.slice a' l' c') ∧ NewIn w wx a' l' c' Lw ∧ Below w.heap.size w wx ∧ w.heap.size ≤ v ∧ v < wx.heap.size
theorem num_a {S : List UInt8} {w w3 : World} {n' : Bool} {e' er : Int} {a' : Option Addr} {l' c' : Nat} {Lw : List Nat} {T : TypeId} (h1 : ParseOut S n' e' Lw er) (h2 : NewIn w w3 a' l' c' Lw) (h3 : Below w.heap.size w w3) :
    NumCut S w (.pointer (some ⟨w3.heap.size, 0, none⟩)) (.int .i64 er) (w3.alloc (.cells #[.bool n', .int .i64 e', .slice a' l' c'] T)) :=
  ⟨_, n', e', a', l', c', Lw, er, rfl, rfl, h1, NumBox.new w3 _ _ _ _, h2.on (h2.toWordsIn.step ((Below.refl _ _).alloc (Nat.le_refl _) _)), h3.alloc h3.size _, h3.size, box_lt _ _⟩
theorem num_b {S : List UInt8} {w w3 : World} {n' : Bool} {e' er : Int} {a' : Option Addr} {l' c' : Nat} {Lw : List Nat} (h1 : ParseOut S n' e' Lw er) (h2 : NewIn w w3 a' l' c' Lw) (h3 : Below w.heap.size w w3) (h4 : NumBox w3 w.heap.size (.bool false) (.int .i64 0) (.slice none 0 0)) :
    NumCut S w (.pointer (some ⟨w.heap.size, 0, none⟩)) (.int .i64 er) (((w3.setCell ⟨w.heap.size, 0, none⟩ (.bool n')).setCell ⟨w.heap.size, 1, none⟩ (.int .i64 e')).setCell ⟨w.heap.size, 2, none⟩ (.slice a' l' c')) :=
  ⟨_, n', e', a', l', c', Lw, er, rfl, rfl, h1, h4.store _ _ _, h2.on (h2.toWordsIn.set3 h4 _ _ _), NumBox.below h3 (Nat.le_refl _) _ _ _, Nat.le_refl _, by simp only [World.size_setCell]; exact block_lt_of_cell h4.c0⟩
set_option maxRecDepth 100000 in
set_option maxHeartbeats 8000000 in
theorem number_any {w : World} {R : Nat} {s : ByteArray} {p : Nat} {m d : Int} (h : RdrAt w R s (p : Int) m d false) (hp : p ≤ s.size) (hs : s.size ≤ 281474976710656) (hT : ∀ W, Turn (OnR R) w W → TabIn W) :
    Calls Tryz.prog 220 #[.pointer (some ⟨R, 0, none⟩)] w (Node R s m d (numP s.data.toList p) w) := by
  obtain ⟨L, hL⟩ : ∃ L, s.data.toList = L := ⟨_, rfl⟩
  have hLs : L.length = s.size := by rw [← hL]; rfl
  obtain ⟨K, hK⟩ : ∃ K, wordTo L p = K := ⟨_, rfl⟩
  have hKp : p ≤ K ∧ K ≤ s.size := by rw [← hK, ← hLs]; exact word_le (by omega)
  obtain ⟨N, hN⟩ : ∃ N, numTo L p = N := ⟨_, rfl⟩
  have hNK : K ≤ N ∧ N ≤ s.size := by rw [← hK, ← hN, ← hLs]; exact num_le (by omega)
  obtain ⟨u1, hu1⟩ : ∃ u : ByteArray, s.extract K s.size = u := ⟨_, rfl⟩
  obtain ⟨u2, hu2⟩ : ∃ u : ByteArray, s.extract (K + 1) s.size = u := ⟨_, rfl⟩
  obtain ⟨u3, hu3⟩ : ∃ u : ByteArray, s.extract p N = u := ⟨_, rfl⟩
  have hu3l : u3.data.toList = (L.drop p).take (N - p) := by
    rw [← hu3, ← hL]; simp only [ByteArray.data_extract, Array.toList_extract, List.extract_eq_take_drop]
  have hu3s : u3.size ≤ 281474976710656 := by rw [← hu3, ByteArray.size_extract]; omega
  obtain ⟨b1, hb1⟩ : ∃ b, decide (byteAt L K = 112) = b := ⟨_, rfl⟩
  obtain ⟨b2, hb2⟩ : ∃ b, decide (byteAt L (K + 1) = 45) = b := ⟨_, rfl⟩
  have hp1 : ∀ W, Calls Tryz.prog 183 #[.string u1, .string ⟨#[112]⟩] W fun e w' => e = .returned (.bool b1) ∧ W = w' := fun W => (Tryz.strings_HasPrefix u1 ⟨#[112]⟩ W).mono (by
    rintro e w' ⟨rfl, rfl⟩
    refine ⟨?_, rfl⟩
    rw [← hu1, Lib.extract_to_end, hL, ← hb1]
    exact congrArg _ (congrArg _ (pre_byte L K (by decide))))
  have hp2 : ∀ W, Calls Tryz.prog 183 #[.string u2, .string ⟨#[45]⟩] W fun e w' => e = .returned (.bool b2) ∧ W = w' := fun W => (Tryz.strings_HasPrefix u2 ⟨#[45]⟩ W).mono (by
    rintro e w' ⟨rfl, rfl⟩
    refine ⟨?_, rfl⟩
    rw [← hu2, Lib.extract_to_end, hL, ← hb2]
    exact congrArg _ (congrArg _ (pre_byte L (K + 1) (by decide))))
  have hd1 := digits_any h p hp hs
  rw [hL, hK] at hd1
  have hd2 := fun (a : Nat) (ha : a ≤ s.size) => digits_any h a ha hs
  simp only [hL] at hd2
  have hNN : N = if b1 = true then (if b2 = true then wordTo L (K + 2) else wordTo L (K + 1)) else K := by
    rw [← hN, ← hb1, ← hb2]
    unfold numTo
    rw [hK]
    simp only [decide_eq_true_eq]
  have hb1s : b1 = true → K + 1 ≤ s.size := fun e => by
    rw [← hb1, decide_eq_true_eq] at e
    have := byteAt_of e (by decide)
    omega
  have hb2s : b2 = true → K + 2 ≤ s.size := fun e => by
    rw [← hb2, decide_eq_true_eq] at e
    have := byteAt_of e (by decide)
    omega
  obtain ⟨c0, c1, _, _, _, _, f1, _, _, _, hlt, _⟩ := id h
  have hps := fun W (hb : Below w.heap.size w W) => parse_new u3 W hu3s (hT W (Turn.of_below hb _))
  rw [hu3l] at hps
  have H := Lib.hid (And.intro h (And.intro hp (And.intro hs (And.intro hlt hps))))
  have HP := Lib.hid (And.intro hp1 (And.intro hp2 (And.intro hd1 (And.intro hd2 (And.intro hNN (And.intro hb1s hb2s))))))
  have HL := Lib.hid (And.intro hL (And.intro hLs (And.intro hN (And.intro hu3l hu3s))))
  have hK48 : K ≤ 281474976710656 := by omega
  have hwr1 : IntKind.i64.wrap ((K : Int) + 1) = (K : Int) + 1 := by rw [IntKind.wrap_i64]; omega
  have hwr2 : IntKind.i64.wrap ((K : Int) + 1 + 1) = (K : Int) + 1 + 1 := by rw [IntKind.wrap_i64]; omega
  have hKn : ((K : Int)).toNat = K := by omega
  have hKn1 : ((K : Int) + 1).toNat = K + 1 := by omega
  have hpn : ((p : Int)).toNat = p := by omega
  have hNn : ((N : Int)).toNat = N := by omega
  have hK0 : (0 : Int) ≤ (K : Int) := by omega
  have hK2 : (K : Int) ≤ (s.size : Int) := by omega
  have hpN : (p : Int) ≤ (N : Int) := by omega
  have hNs : (N : Int) ≤ (s.size : Int) := by omega
  have HK := Lib.hid (And.intro hKp hNK)
  clear h hp hs hT hL hLs hK hN hu3l hu3s hb1 hb2 hp1 hp2 hd1 hd2 hNN hb1s hb2s hlt hps hKp hNK hK48
  go_enter Tryz.func220, Tryz.ntmps220
  go_upto_if 18 with (first
    | (go_at_call_of 229 (Value.int IntKind.i64 (p : Int)); refine HP.out.2.2.1.mono ?_; rintro r w1 ⟨rfl, rfl⟩)
    | (go_at_call_of 183 (Value.string u1); refine (HP.out.1 _).mono ?_; rintro r w1 ⟨rfl, rfl⟩))
  go_cut [3] (fun v wx => v = .int .i64 (N : Int) ∧ w = wx)
  case first =>
    cases b1
    · have HN := Lib.hid (show K = N from (HP.out.2.2.2.2.1).symm)
      go_wp2_with (fail)
      go_meet
      exact ⟨by rw [HN.out], rfl⟩
    · have hNN := HP.out.2.2.2.2.1
      cases b2
      · have HN := Lib.hid (show wordTo L (K + 1) = N from hNN.symm)
        have hd := HP.out.2.2.2.1 (K + 1) (HP.out.2.2.2.2.2.1 rfl)
        rw [show ((K + 1 : Nat) : Int) = (K : Int) + 1 by omega] at hd
        have HD := Lib.hid hd
        clear hd
        have hKle : (K : Int) + 1 ≤ (s.size : Int) := by have := HP.out.2.2.2.2.2.1 rfl; omega
        clear hNN
        go_wp2_with (first
          | (go_at_call_of 183 (Value.string u2); refine (HP.out.2.1 _).mono ?_; rintro r w1 ⟨rfl, rfl⟩)
          | (go_at_call_of 229 (Value.pointer (some ⟨R, 0, none⟩)); refine HD.out.mono ?_; rintro r w1 ⟨rfl, rfl⟩))
        go_meet
        exact ⟨by rw [HN.out], rfl⟩
      · have HN := Lib.hid (show wordTo L (K + 2) = N from hNN.symm)
        have hd := HP.out.2.2.2.1 (K + 2) (HP.out.2.2.2.2.2.2 rfl)
        rw [show ((K + 2 : Nat) : Int) = (K : Int) + 1 + 1 by omega] at hd
        have HD := Lib.hid hd
        clear hd
        have hKle : (K : Int) + 1 ≤ (s.size : Int) := by have := HP.out.2.2.2.2.2.1 rfl; omega
        clear hNN
        go_wp2_with (first
          | (go_at_call_of 183 (Value.string u2); refine (HP.out.2.1 _).mono ?_; rintro r w1 ⟨rfl, rfl⟩)
          | (go_at_call_of 229 (Value.pointer (some ⟨R, 0, none⟩)); refine HD.out.mono ?_; rintro r w1 ⟨rfl, rfl⟩))
        go_meet
        exact ⟨by rw [HN.out], rfl⟩
  case rest =>
    obtain ⟨rfl, rfl⟩ := hcut
    go_upto_region 7 with fail
    go_cut [4, 5] (fun s4 s5 wx => NumCut ((L.drop p).take (N - p)) w s4 s5 wx)
    case first =>
      have d0 : w.drew.cell? ⟨R, 0, none⟩ = some (.string s) := c0
      have d1 : w.drew.cell? ⟨R, 1, none⟩ = some (.int .i64 (p : Int)) := c1
      have hba := (Below.refl w.heap.size w).alloc (Nat.le_refl _) (.cells #[.bool false, .int .i64 0, .slice none 0 0] 41)
      have hRa := H.out.1.step hba
      have a0 := hRa.c0
      have a1 := hRa.c1
      have hRb := hRa.drew
      have b0 := hRb.c0
      have b1' := hRb.c1
      have hRc := H.out.1.drew.step ((Below.refl w.drew.heap.size w.drew).alloc (Nat.le_refl _) (.cells #[.bool false, .int .i64 0, .slice none 0 0] 41))
      have g0 := hRc.c0
      have g1 := hRc.c1
      clear hba hRa hRb hRc
      go_region_law (
        refine step_call (by rfl) 230 #[.string u3] (by simp [go_sem]) ?_
        refine (H.out.2.2.2.2 _ ?_).mono ?_
        (first | exact below_drew0 w | exact Below.next0 ((Below.refl w.heap.size w).alloc (Nat.le_refl _) _) (below_drew0 _) | exact (Below.refl w.heap.size w).alloc (Nat.le_refl _) _ | exact Below.next0 (below_drew0 w) ((Below.refl _ _).alloc (Nat.le_refl _) _))
        rintro r w3 ⟨n', e', a', l', c', Lw, er, rfl, hpo, hnw, hb3⟩
        refine ⟨_, rfl, ?_⟩
        have hbb : Below w.heap.size w w3 := by
          first
            | exact Below.next0 (below_drew0 w) hb3
            | exact Below.next0 ((Below.refl w.heap.size w).alloc (Nat.le_refl _) _) hb3
            | exact Below.next0 (Below.next0 ((Below.refl w.heap.size w).alloc (Nat.le_refl _) _) (below_drew0 _)) hb3
            | exact Below.next0 (Below.next0 (below_drew0 w) ((Below.refl _ _).alloc (Nat.le_refl _) _)) hb3
        (first
          | (have hM := ((NumBox.new w (.bool false) (.int .i64 0) (.slice none 0 0) 41).step (below_drew0 _) (box_lt _ _)).step hb3 (by show _ < (World.alloc _ _).heap.size; exact box_lt _ _)
             have hS := hM.store (.bool n') (.int .i64 e') (.slice a' l' c')
             have o0 := hM.c0
             have o1 := hM.c1
             have o2 := hM.c2
             have u0 := hM.f0
             have u1 := hM.f1
             have u2 := hM.f2
             have HS := Lib.hid (And.intro hM hS)
             clear hM hS)
          | skip)
        have hn0 : NewIn w w3 a' l' c' Lw := by
          first
            | exact NewIn.lower (w0 := w) hnw (Nat.le_refl _)
            | exact NewIn.lower (w0 := w) hnw (Nat.le_of_lt (box_lt w _))
        have HZ := Lib.hid (And.intro hpo (And.intro hn0 hbb))
        clear hpo hnw hb3 hbb hn0)
      all_goals go_wp2_with fail
      all_goals go_meet
      all_goals first
        | exact num_a HZ.out.1 HZ.out.2.1 HZ.out.2.2
        | exact num_b HZ.out.1 HZ.out.2.1 HZ.out.2.2 HS.out.1
    case rest =>
      obtain ⟨v, n', e', a', l', c', Lw, er, rfl, rfl, hpo, hbx, hnw, hbw, hv1, hv2⟩ := hcut
      have hr := H.out.1.step hbw
      have hvR : v ≠ R := by have := H.out.2.2.2.1; omega
      unfold ParseOut at hpo
      cases hF : form ((L.drop p).take (N - p)) with
      | none =>
        rw [hF] at hpo
        obtain ⟨rfl, rfl, rfl, rfl⟩ := hpo
        have hres : numP L p = .error p := by unfold numP; rw [HL.out.2.2.1, hF]
        have hwg := wrong_any hr (p : Int)
        simp only [Bool.false_eq_true, if_false] at hwg
        have k1 := hr.c1
        have HR := Lib.hid (And.intro hwg (And.intro hbw hres))
        clear hr hbx hnw hbw hwg hres hF c0 c1 f1
        go_wp2_with (refine HR.out.1.mono ?_; rintro r w4 ⟨rfl, hr4, ht4⟩; have HB := Lib.hid (And.intro hr4 ht4); clear hr4 ht4)
        go_ret
        rw [HL.out.1, HR.out.2.2]
        exact ⟨_, _, rfl, (Turn.of_below HR.out.2.1 _).trans0 HB.out.2, HB.out.1, H.out.2.1⟩
      | some z =>
        obtain ⟨neg, v0, e0⟩ := z
        rw [hF] at hpo
        have hfo := make_fit hpo
        have hres : numP L p = .ok (.num (if fitsB (dy (sgn neg v0) e0) = true then some (dy (sgn neg v0) e0) else none), N) := by unfold numP; rw [HL.out.2.2.1, hF]
        have k1 := hr.c1
        have g1 := hr.f1
        have hbf := hbx.far (p := ⟨R, 1, none⟩) (fun e => hvR e.symm) (.int .i64 (N : Int))
        have o0 := hbf.c0
        have o1 := hbf.c1
        have o2 := hbf.c2
        have her : ((er : Int) == 5) = false := by
          rw [beq_eq_false_iff_ne]
          rcases hfo with ⟨_, h, _⟩ | ⟨_, h, _⟩ <;> omega
        have HR := Lib.hid (And.intro hr (And.intro hbw (And.intro hres (And.intro hfo hnw))))
        clear hr hbx hnw hbw hres hfo hpo hF c0 c1 f1 hbf
        go_wp2_with fail
        go_ret
        rw [HL.out.1, HR.out.2.2.1]
        refine ⟨_, _, rfl, (Turn.of_below HR.out.2.1 _).trans0 (turn_set _ _ _ _), ?_, HR.out.1.setAt (N : Int), HK.out.2.2⟩
        rcases HR.out.2.2.2.1 with ⟨h1, rfl, h3, h4⟩ | ⟨h1, rfl, _⟩
        · rw [if_pos ((fitsB_iff _).2 h1), ExAt]
          exact ⟨n', e', a', l', c', Lw, rfl, HR.out.2.2.2.2.toWordsIn.set1 HR.out.1.c1 (fun _ => by simp [nv]) _, HR.out.2.2.2.2.off, h3, h4⟩
        · rw [if_neg (fun h => h1 ((fitsB_iff _).1 h)), ExAt]
          exact ⟨_, _, _, _, _, rfl⟩
end Go.Proofs.YtdilmfakkppgpaaGreatDoor
namespace Go.Proofs.YtdilmfakkppgpaaGreatDoor
open Go.RowKit WordsM DecM
def orBad (bad : Bool) (p : Nat) (r : PR Ex) : PR Ex := if bad = true then .error p else r
theorem Node.lift {R : Nat} {s : ByteArray} {m d : Int} {res : PR Ex} {w0 w : World} {e : Ending} {w' : World} (ht : Turn (OnR R) w0 w) (h : Node R s m d res w e w') : Node R s m d res w0 e w' := by
  obtain ⟨t, u, rfl, h1, h2⟩ := h
  refine ⟨t, u, rfl, ht.trans0 h1, ?_⟩
  cases res with
  | error q => exact h2
  | ok z => exact ⟨h2.1.more fun k hk => .inl (Nat.lt_of_lt_of_le hk ht.size), h2.2⟩
theorem Node.okd {R : Nat} {s : ByteArray} {m d : Int} {w0 w' : World} {x : Ex} {q : Nat} {t : TypeId} {u : Value} (ht : Turn (OnR R) w0 w') (hx : ExAt (· < w0.heap.size) w' x (.iface t u)) (hr : RdrAt w' R s (q : Int) m d false) (hq : q ≤ s.size) : Node R s m d (.ok (x, q)) w0 (.returned (.iface t u)) w' := ⟨t, u, rfl, ht, hx, hr, hq⟩
theorem Node.err {R : Nat} {s : ByteArray} {m d : Int} {w0 w' : World} {q : Nat} {t : TypeId} {u : Value} (ht : Turn (OnR R) w0 w') (hr : RdrAt w' R s (q : Int) m d true) (hq : q ≤ s.size) : Node R s m d (.error q) w0 (.returned (.iface t u)) w' := ⟨t, u, rfl, ht, hr, hq⟩
theorem num_ne {c : UInt8} {k : Nat} (hk : k < 256) (h : c ≠ UInt8.ofNat k) : ((c.toNat : Int) == (k : Int)) = false := by
  rw [beq_eq_false_iff_ne]
  intro e
  exact h (UInt8.toNat_inj.1 (by rw [UInt8.toNat_ofNat']; omega))
theorem fix_one {L : List UInt8} {p : Nat} {c : UInt8} : fixedP L [c] p = if byteAt L p = c then .ok (p + 1) else .error p := by
  rw [fixedP]
  split
  · rw [fixedP]
  · rfl
def closeP (L : List UInt8) (r : PR Ex) : PR Ex := match r with
  | .error e => .error e
  | .ok (x, q) => if byteAt L (skipB L q) = 41 then .ok (x, skipB L q + 1) else .error (skipB L q)
set_option maxRecDepth 100000 in
set_option maxHeartbeats 8000000 in
theorem base_any {w : World} {R : Nat} {s : ByteArray} {p most : Nat} {d : Int} {bad : Bool} (sub : Nat → PR Ex) (h : RdrAt w R s (p : Int) (most : Int) d bad) (hp : p ≤ s.size) (hs : s.size ≤ 281474976710656) (hd0 : 0 ≤ d) (hd : d ≤ 16) (hT : ∀ W, Turn (OnR R) w W → TabIn W)
    (hsub : d < 16 → ∀ (W : World) (q : Nat), RdrAt W R s (q : Int) (most : Int) (d + 1) false → q ≤ s.size → (∀ W', Turn (OnR R) W W' → TabIn W') → Calls Tryz.prog 80 #[.pointer (some ⟨R, 0, none⟩)] W (Node R s (most : Int) (d + 1) (sub q) W)) :
    Calls Tryz.prog 191 #[.pointer (some ⟨R, 0, none⟩)] w (Node R s (most : Int) d (orBad bad p (baseP sub (decide (d < 16)) s.data.toList most p)) w) := by
  obtain ⟨L, hL⟩ : ∃ L, s.data.toList = L := ⟨_, rfl⟩
  have hLs : L.length = s.size := by rw [← hL]; rfl
  have hsg := sign_any h hp hs
  rw [hL] at hsg ⊢
  obtain ⟨q, hq⟩ : ∃ q, skS L p bad = q := ⟨_, rfl⟩
  obtain ⟨c, hc⟩ : ∃ c, nxB L q bad = c := ⟨_, rfl⟩
  have hqs : q ≤ s.size := by
    rw [← hq]; unfold skS
    split
    · exact hp
    · rw [← hLs]; exact skip_le (by omega)
  rw [hq, hc] at hsg
  have hw1 : IntKind.i64.wrap ((q : Int) + 1) = (q : Int) + 1 := by rw [IntKind.wrap_i64]; omega
  have H := Lib.hid (And.intro hL (And.intro hLs (And.intro hqs (And.intro hs (And.intro hsg hT)))))
  have HB := Lib.hid hsub
  have HD := Lib.hid (And.intro hd0 hd)
  have HC := Lib.hid hc
  have HQ := Lib.hid hq
  clear h hp hs hL hLs hqs hsg hT hsub hc hq hd0 hd
  cases bad with
  | true =>
    obtain rfl : q = p := by have := HQ.out; simp only [skS, if_true] at this; exact this.symm
    obtain rfl : c = 0 := by have := HC.out; simp only [nxB, if_true] at this; exact this.symm
    have hres : orBad true q (baseP sub (decide (d < 16)) L most q) = .error q := rfl
    rw [hres]
    clear hres
    have n48 : ¬ (48 : Int) ≤ (((0 : UInt8).toNat : Nat) : Int) := by decide
    have n120 : ((((0 : UInt8).toNat : Nat) : Int) == 120) = false := by decide
    have n40 : ((((0 : UInt8).toNat : Nat) : Int) == 40) = false := by decide
    go_enter Tryz.func191, Tryz.ntmps191
    go_wp2_with (first
      | (go_at_call_of 81 (Value.pointer (some ⟨R, 0, none⟩)); refine H.out.2.2.2.2.1.mono ?_; rintro r w1 ⟨rfl, hr1, ht1⟩; have k1 := hr1.c1; have H1 := Lib.hid (And.intro hr1 ht1); clear hr1 ht1)
      | (go_at_call_of 132 (Value.pointer (some ⟨R, 0, none⟩)); refine (wrong_any H1.out.1 _).mono ?_; rintro r w2 ⟨rfl, hr2, ht2⟩; have H2 := Lib.hid (And.intro hr2 ht2); clear hr2 ht2))
    go_ret
    exact Node.err (H1.out.2.trans0 H2.out.2) (by have h := H2.out.1; simpa using h) H.out.2.2.1
  | false =>
    have hqq : skipB L p = q := by have := HQ.out; simpa [skS] using this
    have hcc : byteAt L q = c := by have := HC.out; simpa [nxB] using this
    have hres : orBad false p (baseP sub (decide (d < 16)) L most p) = baseP sub (decide (d < 16)) L most p := rfl
    rw [hres]
    clear hres
    obtain ⟨X, hX⟩ : ∃ X, baseP sub (decide (d < 16)) L most p = X := ⟨_, rfl⟩
    rw [hX]
    have hbase : X = (if 48 ≤ c.toNat ∧ c.toNat ≤ 57 then numP L q
      else if c = 120 then
        (if 49 ≤ (byteAt L (q + 1)).toNat ∧ (byteAt L (q + 1)).toNat ≤ 48 + most then .ok (.var ((byteAt L (q + 1)).toNat - 49), q + 2) else .error (q + 1))
      else if c = 40 ∧ decide (d < 16) = true then
        closeP L (sub (q + 1))
      else .error q) := by
      rw [← hX]
      unfold baseP
      rw [hqq, hcc]
      rfl
    have HR := Lib.hid (And.intro hbase (And.intro hqq hcc))
    clear hbase hqq hcc hX
    by_cases hdig : 48 ≤ c.toNat ∧ c.toNat ≤ 57
    · have n1 : (48 : Int) ≤ (c.toNat : Int) := by omega
      have n2 : (c.toNat : Int) ≤ 57 := by omega
      have hres : X = numP L q := by rw [HR.out.1, if_pos hdig]
      have HE := Lib.hid hres
      clear hres hdig
      go_enter Tryz.func191, Tryz.ntmps191
      go_wp2_with (first
        | (go_at_call_of 81 (Value.pointer (some ⟨R, 0, none⟩)); refine H.out.2.2.2.2.1.mono ?_; rintro r w1 ⟨rfl, hr1, ht1⟩; have H1 := Lib.hid (And.intro hr1 ht1); clear hr1 ht1)
        | (go_at_call_of 220 (Value.pointer (some ⟨R, 0, none⟩)); refine (number_any H1.out.1 H.out.2.2.1 H.out.2.2.2.1 (fun W hW => H.out.2.2.2.2.2 W (H1.out.2.trans0 hW))).mono ?_; rintro r w2 ⟨t, u, rfl, hN⟩; have H2 := Lib.hid (show Node R s (most : Int) d (numP s.data.toList q) w1 (.returned (.iface t u)) w2 from ⟨t, u, rfl, hN⟩); clear hN))
      go_ret
      have h2 := H2.out
      rw [H.out.1, ← HE.out] at h2
      exact h2.lift H1.out.2
    · have hn1 : (48 : Int) ≤ (c.toNat : Int) → ¬ (c.toNat : Int) ≤ 57 := by omega
      by_cases hx : c = 120
      · subst hx
        have n1 : (48 : Int) ≤ (((120 : UInt8).toNat : Nat) : Int) := by decide
        have n2 : ¬ (((120 : UInt8).toNat : Nat) : Int) ≤ 57 := by decide
        have n3 : ((((120 : UInt8).toNat : Nat) : Int) == 120) = true := by decide
        have hres : X = (if 49 ≤ (byteAt L (q + 1)).toNat ∧ (byteAt L (q + 1)).toNat ≤ 48 + most then .ok (.var ((byteAt L (q + 1)).toNat - 49), q + 2) else .error (q + 1)) := by rw [HR.out.1, if_neg hdig, if_pos rfl]
        have hq1 : q + 1 ≤ s.size := by have := byteAt_of HR.out.2.2 (by decide); have := H.out.2.1; omega
        have HX := Lib.hid hq1
        have HE := Lib.hid hres
        clear hres hdig hn1 hq1
        go_enter Tryz.func191, Tryz.ntmps191
        go_wp2_with (first
          | (go_at_call_of 81 (Value.pointer (some ⟨R, 0, none⟩)); refine H.out.2.2.2.2.1.mono ?_; rintro r w1 ⟨rfl, hr1, ht1⟩; have k1 := hr1.c1; have g1 := hr1.f1; have hr1s := hr1.setAt ((q : Int) + 1); have k2 := hr1s.c2; have H1 := Lib.hid (And.intro hr1 ht1); have HS1 := Lib.hid hr1s; clear hr1 ht1 hr1s)
          | (go_at_call_of 192 (Value.pointer (some ⟨R, 0, none⟩)); refine (rdigit_any (p := q + 1) (show RdrAt _ R s (((q + 1 : Nat)) : Int) (most : Int) d false from HS1.out) HX.out H.out.2.2.2.1 1 (most : Int) (by decide)).mono ?_; rintro r w2 ⟨hor, ht2⟩; obtain ⟨z, hz⟩ : ∃ z : Int, r = .returned (.int .i64 z) := by { rcases hor with ⟨_, _, _, h, _⟩ | ⟨_, h, _⟩ <;> exact ⟨_, h⟩ }; subst hz; have hzw : IntKind.i64.wrap (z - 1) = z - 1 := by { rcases hor with ⟨_, h1, _, h, _⟩ | ⟨_, h, _⟩ <;> { injection h with h; injection h with _ h; rw [IntKind.wrap_i64]; have := (byteAt s.data.toList (q + 1)).toNat_lt; omega } }; have H2 := Lib.hid (And.intro hor ht2); clear hor ht2))
        go_ret
        obtain ⟨hor, ht2⟩ := H2.out
        have ht := (H1.out.2.trans0 (turn_set w1 R 1 (.int .i64 ((q : Int) + 1)))).trans0 ht2
        rw [H.out.1] at hor
        rcases hor with ⟨_, h1, h2, h3, h4⟩ | ⟨h1, h3, h4⟩
        · injection h3 with h3
          injection h3 with _ h3
          subst h3
          rw [HE.out, if_pos ⟨by omega, by omega⟩]
          refine Node.okd ht ?_ h4 ?_
          · rw [ExAt]
            exact congrArg (fun z => Value.iface _ (.agg #[.int .i64 z])) (by omega)
          · have h5 : byteAt L (q + 1) ≠ 0 := fun e => by rw [e] at h1; exact absurd h1 (by decide)
            have := byteAt_lt h5; have := H.out.2.1; omega
        · rw [HE.out, if_neg (fun h => h1 ⟨trivial, by omega, by omega⟩)]
          exact Node.err ht h4 HX.out
      · have n3 := num_ne (k := 120) (by decide) hx
        by_cases h40 : c = 40 ∧ d < 16
        · obtain ⟨rfl, hdl⟩ := h40
          have n1 : ¬ (48 : Int) ≤ (((40 : UInt8).toNat : Nat) : Int) := by decide
          have n4 : ((((40 : UInt8).toNat : Nat) : Int) == 40) = true := by decide
          have hres : X = closeP L (sub (q + 1)) := by rw [HR.out.1, if_neg hdig, if_neg hx, if_pos ⟨rfl, decide_eq_true hdl⟩]
          have hq1 : q + 1 ≤ s.size := by have := byteAt_of HR.out.2.2 (by decide); have := H.out.2.1; omega
          have hwd1 : IntKind.i64.wrap (d + 1) = d + 1 := by rw [IntKind.wrap_i64]; have := HD.out; omega
          have hwd2 : IntKind.i64.wrap (d + 1 - 1) = d := by rw [IntKind.wrap_i64]; have := HD.out; omega
          have hwd3 : IntKind.i64.wrap d = d := by rw [IntKind.wrap_i64]; have := HD.out; omega
          have HX := Lib.hid (And.intro hq1 (HB.out hdl))
          have HE := Lib.hid hres
          clear hres hdig hn1 hq1 hx
          go_enter Tryz.func191, Tryz.ntmps191
          go_upto_region 11 with (first
            | (go_at_call_of 81 (Value.pointer (some ⟨R, 0, none⟩)); refine H.out.2.2.2.2.1.mono ?_; rintro r w1 ⟨rfl, hr1, ht1⟩; have k1 := hr1.c1; have k3 := hr1.c3; have g1 := hr1.f1; have hr1s := hr1.setAt ((q : Int) + 1); have k3s := hr1s.c3; have g3s := hr1s.f3; have H1 := Lib.hid (And.intro hr1 ht1); have HS1 := Lib.hid (hr1s.setDeep (d + 1)); clear hr1 ht1 hr1s)
            | (go_at_call_of 80 (Value.pointer (some ⟨R, 0, none⟩)); refine (HX.out.2 _ (q + 1) (show RdrAt _ R s (((q + 1 : Nat)) : Int) (most : Int) (d + 1) false from HS1.out) HX.out.1 (fun W hW => H.out.2.2.2.2.2 W ((H1.out.2.trans0 ((turn_set w1 R 1 (.int .i64 ((q : Int) + 1))).trans0 (turn_set _ R 3 (.int .i64 (d + 1))))).trans0 hW))).mono ?_; rintro r w2 ⟨t, u, rfl, ht2, hN⟩; have H2 := Lib.hid (And.intro ((H1.out.2.trans0 ((turn_set w1 R 1 (.int .i64 ((q : Int) + 1))).trans0 (turn_set _ R 3 (.int .i64 (d + 1))))).trans0 ht2) hN); clear ht2 hN))
          cases hS : sub (q + 1) with
          | error e =>
            have h2 := H2.out.2
            rw [hS] at h2
            have hres : X = .error e := by rw [HE.out, hS]; rfl
            have k3 := h2.1.c3
            have g3 := h2.1.f3
            have hr3 := h2.1.setDeep d
            have hsg := sign_any hr3 h2.2 H.out.2.2.2.1
            simp only [skS, if_true] at hsg
            have hfx := fun W (hW : RdrAt W R s (e : Int) (most : Int) d true) => fixed_any hW h2.2 H.out.2.2.2.1 ⟨#[41]⟩ (by decide) (by decide) (by decide)
            simp only [if_true] at hfx
            have H3 := Lib.hid (And.intro hres (And.intro h2.2 (And.intro hsg hfx)))
            clear h2 hres hr3 hsg hfx hS
            go_wp2_with (first
              | (go_at_call_of 81 (Value.pointer (some ⟨R, 0, none⟩)); refine H3.out.2.2.1.mono ?_; rintro r w4 ⟨rfl, hr4, ht4⟩; have H4 := Lib.hid (And.intro hr4 ht4); clear hr4 ht4)
              | (go_at_call_of 79 (Value.pointer (some ⟨R, 0, none⟩)); refine (H3.out.2.2.2 w4 H4.out.1).mono ?_; rintro r w5 ⟨rfl, ht5, hr5⟩; have H5 := Lib.hid (And.intro hr5 ht5); clear hr5 ht5))
            go_ret
            rw [H3.out.1]
            exact Node.err (((H2.out.1.trans0 (turn_set w2 R 3 (.int .i64 d))).trans0 H4.out.2).trans0 H5.out.2) H5.out.1.1 H5.out.1.2
          | ok z =>
            obtain ⟨x, q2⟩ := z
            have h2 := H2.out.2
            rw [hS] at h2
            obtain ⟨q3, hq3⟩ : ∃ q3, skipB L q2 = q3 := ⟨_, rfl⟩
            have hq3s : q3 ≤ s.size := by rw [← hq3, ← H.out.2.1]; exact skip_le (by have := H.out.2.1; have := h2.2.2; omega)
            have hres : X = if byteAt L q3 = 41 then .ok (x, q3 + 1) else .error q3 := by rw [HE.out, hS, ← hq3]; rfl
            have k3 := h2.2.1.c3
            have g3 := h2.2.1.f3
            have hr3 := h2.2.1.setDeep d
            have hsg := sign_any hr3 h2.2.2 H.out.2.2.2.1
            rw [H.out.1] at hsg
            simp only [skS, Bool.false_eq_true, if_false, hq3] at hsg
            have hfx := fun W (hW : RdrAt W R s (q3 : Int) (most : Int) d false) => fixed_any hW hq3s H.out.2.2.2.1 ⟨#[41]⟩ (by decide) (by decide) (by decide)
            have hf1 : fixedP L [41] q3 = if byteAt L q3 = 41 then .ok (q3 + 1) else .error q3 := fix_one
            rw [H.out.1] at hfx
            simp only [Bool.false_eq_true, if_false] at hfx
            have H3 := Lib.hid (And.intro hres (And.intro h2.1 (And.intro hsg (And.intro hfx hf1))))
            clear h2 hres hr3 hsg hfx hS hf1 hq3 hq3s
            go_wp2_with (first
              | (go_at_call_of 81 (Value.pointer (some ⟨R, 0, none⟩)); refine H3.out.2.2.1.mono ?_; rintro r w4 ⟨rfl, hr4, ht4⟩; have H4 := Lib.hid (And.intro hr4 ht4); clear hr4 ht4)
              | (go_at_call_of 79 (Value.pointer (some ⟨R, 0, none⟩)); refine (H3.out.2.2.2.1 w4 H4.out.1).mono ?_; rintro r w5 ⟨rfl, ht5, hr5⟩; have H5 := Lib.hid (And.intro hr5 ht5); clear hr5 ht5))
            go_ret
            have ht35 := ((turn_set w2 R 3 (.int .i64 d)).trans0 H4.out.2).trans0 H5.out.2
            have ht := H2.out.1.trans0 ht35
            have h5 := H5.out.1
            have h5' : FixOut R s (most : Int) d (fixedP L [41] q3) w5 := h5
            rw [H3.out.2.2.2.2] at h5'
            rw [H3.out.1]
            by_cases h41 : byteAt L q3 = 41
            · rw [if_pos h41] at h5' ⊢
              refine Node.okd ht ?_ h5'.1 h5'.2
              have h6 := H3.out.2.1.turn ht35 (fun k (hk : k = R) => by subst hk; simp only [World.size_setCell]; exact H1.out.1.lt)
              exact h6.more fun k hk => .inl (by simp only [World.size_setCell]; exact Nat.lt_of_lt_of_le hk H1.out.2.size)
            · rw [if_neg h41] at h5' ⊢
              exact Node.err ht h5'.1 h5'.2
        · have hres : X = .error q := by
            rw [HR.out.1, if_neg hdig, if_neg hx, if_neg (fun h => h40 ⟨h.1, of_decide_eq_true h.2⟩)]
          have HE := Lib.hid hres
          clear hres
          have hcut : ∀ b : Bool, b = ((c.toNat : Int) == 40) → (b = false ∨ b = true ∧ ¬ d < 16) := by
            intro b hb
            by_cases hc : c = 40
            · exact .inr ⟨by rw [hb, hc]; rfl, fun hd => h40 ⟨hc, hd⟩⟩
            · exact .inl (by rw [hb]; exact num_ne (k := 40) (by decide) hc)
          have hn2 : ¬ ((48 : Int) ≤ (c.toNat : Int) ∧ (c.toNat : Int) ≤ 57) := by omega
          rcases hcut _ rfl with n40 | ⟨n40, nd⟩
          · clear hcut h40 hx hdig hn1
            by_cases n48 : (48 : Int) ≤ (c.toNat : Int)
            · have n57 : ¬ (c.toNat : Int) ≤ 57 := by omega
              clear hn2
              go_enter Tryz.func191, Tryz.ntmps191
              go_wp2_with (first
                | (go_at_call_of 81 (Value.pointer (some ⟨R, 0, none⟩)); refine H.out.2.2.2.2.1.mono ?_; rintro r w1 ⟨rfl, hr1, ht1⟩; have k1 := hr1.c1; have k3 := hr1.c3; have H1 := Lib.hid (And.intro hr1 ht1); clear hr1 ht1)
                | (go_at_call_of 132 (Value.pointer (some ⟨R, 0, none⟩)); refine (wrong_any H1.out.1 _).mono ?_; rintro r w2 ⟨rfl, hr2, ht2⟩; have H2 := Lib.hid (And.intro hr2 ht2); clear hr2 ht2))
              go_ret
              rw [HE.out]
              exact Node.err (H1.out.2.trans0 H2.out.2) (by have h := H2.out.1; simpa using h) H.out.2.2.1
            · clear hn2
              go_enter Tryz.func191, Tryz.ntmps191
              go_wp2_with (first
                | (go_at_call_of 81 (Value.pointer (some ⟨R, 0, none⟩)); refine H.out.2.2.2.2.1.mono ?_; rintro r w1 ⟨rfl, hr1, ht1⟩; have k1 := hr1.c1; have k3 := hr1.c3; have H1 := Lib.hid (And.intro hr1 ht1); clear hr1 ht1)
                | (go_at_call_of 132 (Value.pointer (some ⟨R, 0, none⟩)); refine (wrong_any H1.out.1 _).mono ?_; rintro r w2 ⟨rfl, hr2, ht2⟩; have H2 := Lib.hid (And.intro hr2 ht2); clear hr2 ht2))
              go_ret
              rw [HE.out]
              exact Node.err (H1.out.2.trans0 H2.out.2) (by have h := H2.out.1; simpa using h) H.out.2.2.1
          · have hc40 : (c.toNat : Int) = 40 := by simpa using n40
            have n48 : ¬ (48 : Int) ≤ (c.toNat : Int) := by omega
            clear hcut h40 hx hdig hn1 hn2 hc40
            go_enter Tryz.func191, Tryz.ntmps191
            go_wp2_with (first
              | (go_at_call_of 81 (Value.pointer (some ⟨R, 0, none⟩)); refine H.out.2.2.2.2.1.mono ?_; rintro r w1 ⟨rfl, hr1, ht1⟩; have k1 := hr1.c1; have k3 := hr1.c3; have H1 := Lib.hid (And.intro hr1 ht1); clear hr1 ht1)
              | (go_at_call_of 132 (Value.pointer (some ⟨R, 0, none⟩)); refine (wrong_any H1.out.1 _).mono ?_; rintro r w2 ⟨rfl, hr2, ht2⟩; have H2 := Lib.hid (And.intro hr2 ht2); clear hr2 ht2))
            go_ret
            rw [HE.out]
            exact Node.err (H1.out.2.trans0 H2.out.2) (by have h := H2.out.1; simpa using h) H.out.2.2.1
end Go.Proofs.YtdilmfakkppgpaaGreatDoor
