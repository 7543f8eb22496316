/- The walk of the digits' Parse. Condition: Go's own limit of a text; the library's table lies. -/
import Derived.Test.YtmocmkfpblakbaaDoorDigE
import Derived.Test.YtmocmkfpblakbaaDoorRefM
import Derived.Test.YtmocmkfpblakbaaDoorNumC
namespace Go.Proofs.YtmocmkfpblakbaaDoor
open Go.RowKit WordsM DecM

theorem expo_bound (l : List UInt8) (x : Int) (h : expo l = some x) : -1000000 ≤ x ∧ x ≤ 1000000 := by
  cases l with
  | nil => rw [expo] at h; injection h with h; omega
  | cons c r =>
    rw [expo] at h
    split at h
    · cases h
    · split at h
      · cases h
      · rename_i h2
        have hd : allD (minus r).2 := by
          have h3 := digN_take (minus r).2
          rw [List.take_of_length_le (by omega)] at h3
          exact h3
        have hb : dv (minus r).2 < 10 ^ 6 := Nat.lt_of_lt_of_le (dv_lt _ hd) (Nat.pow_le_pow_right (by decide) (by omega))
        have e6 : (10 : Nat) ^ 6 = 1000000 := rfl
        rw [e6] at hb
        injection h with h
        split at h <;> omega
set_option maxRecDepth 100000 in
set_option maxHeartbeats 8000000 in
theorem parse_any (s : ByteArray) (w : World) (hs : s.size ≤ 281474976710656) (hTI : TabIn w) :
    Calls Tryd.prog 6 #[.string s] w (NumRes w (ParseOut s.data.toList)) := by
  have hlen : s.data.toList.length = s.size := rfl
  have hB0 : Below w.heap.size w (w.alloc (.cells #[.bool false, .int .i64 0, .slice none 0 0] 28)) := (Below.refl _ _).alloc (Nat.le_refl _) _
  have hN0 := NumBox.new w (.bool false) (.int .i64 0) (.slice none 0 0) 28
  have hl0 := box_lt w (.cells #[.bool false, .int .i64 0, .slice none 0 0] 28)
  have HW := Lib.hid (And.intro hB0 hN0)
  have HTI := Lib.hid hTI
  have hq := pre_minus s.data.toList
  obtain ⟨neg, t, hmt⟩ : ∃ neg t, minus s.data.toList = (neg, t) := ⟨_, _, rfl⟩
  have htl : t.length ≤ s.size := by
    have h1 : (minus s.data.toList).2.length ≤ s.data.toList.length := by
      cases s.data.toList with
      | nil => simp [minus]
      | cons x y => simp only [minus]; split <;> simp
    rw [hmt] at h1; exact h1
  have hfo : form s.data.toList = form s.data.toList := rfl
  conv at hfo => rhs; unfold form
  rw [hmt] at hfo
  simp only at hfo
  have hc1 : ∀ W, Calls Tryd.prog 16 #[.string s, .string ⟨#[45]⟩] W fun e w' => e = .returned (.tuple #[.string ⟨t.toArray⟩, .bool neg]) ∧ W = w' := fun W => (Tryd.strings_CutPrefix s ⟨#[45]⟩ W).mono (by
    rintro e w' ⟨rfl, rfl⟩
    refine ⟨?_, rfl⟩
    show Ending.returned (.tuple #[.string ⟨(Lib.trimPrefix s.data.toList [45]).toArray⟩, .bool (Lib.hasPrefix s.data.toList [45])]) = _
    rw [hq.1, hq.2, hmt])
  obtain ⟨T, hT⟩ : ∃ T : ByteArray, T = ⟨t.toArray⟩ := ⟨_, rfl⟩
  have hTs : T.size = t.length := by rw [hT]; rfl
  have hTl : T.data.toList = t := by rw [hT]
  rw [← hT] at hc1
  have hrun := fun W => run_any T W (by omega)
  obtain ⟨k, hk⟩ : ∃ k, digN t = k := ⟨_, rfl⟩
  have hkl := digN_le t
  have hta := digN_take t
  rw [hk] at hkl hfo hta
  have HK := Lib.hid hk
  have HT := Lib.hid (And.intro hTs hTl)
  have HC := Lib.hid (And.intro hc1 hrun)
  have HFO := Lib.hid hfo
  have HTA := Lib.hid hta
  clear hq hmt hfo hc1 hrun hk hT hB0 hN0 hTI hlen hta
  by_cases h1 : k < 1
  · skip
    have hkI : (k : Int) < 1 := by omega
    have hF : form s.data.toList = none := by rw [HFO.out, if_pos (.inl h1)]
    have HF := Lib.hid hF
    clear hF hTs hTl
    go_enter Tryd.func6, Tryd.ntmps6
    go_wp2_with (first
      | (go_at_call_of 16 (Value.string s); refine (HC.out.1 _).mono ?_; rintro e w1 ⟨rfl, rfl⟩)
      | (go_at_call_of 17 (Value.string T); refine (HC.out.2 _).mono ?_; rintro e w2 ⟨⟨k', rfl, hk'⟩, hb2⟩; obtain rfl : k = k' := by { rw [← HK.out, ← HT.out.2]; exact isrun_digN hk' }; have hNN := HW.out.2.step hb2 hl0; have hc0 := hNN.c0; have hc1 := hNN.c1; have hc2 := hNN.c2; have hf0 := hNN.f0; have hf1 := hNN.f1; have hf2 := hNN.f2; have hd1' := hNN.d1 (.bool false); have hd2' := hNN.d2 (.bool false) (.int .i64 0); have HB2 := Lib.hid (And.intro hNN (And.intro hb2 (Below.next0 HW.out.1 hb2))); clear hNN hb2 hk'))
    have hS5 := HB2.out.1.store (.bool false) (.int .i64 0) (.slice none 0 0)
    have k0 := hS5.c0
    have k1 := hS5.c1
    have k2 := hS5.c2
    have hb5 := NumBox.below HB2.out.2.2 (Nat.le_refl _) (.bool false) (.int .i64 0) (.slice none 0 0)
    clear hS5 hc0 hc1 hc2 hf0 hf1 hf2 hd1' hd2'
    generalize World.setCell _ _ _ = W5 at k0 k1 k2 hb5 ⊢
    refine ⟨rfl, .tuple #[.agg #[.bool false, .int .i64 0, .slice none 0 0], .int .i64 5], by simp [results, go_sem, k0, k1, k2], NumRes.of (ParseOut.none_ HF.out) (WordsIn.nil_ _) hb5⟩
  · have hkI : ¬ (k : Int) < 1 := by omega
    by_cases h13 : 1300 < k
    · skip
      have hk13 : (1300 : Int) < (k : Int) := by omega
      have hF : form s.data.toList = none := by rw [HFO.out, if_pos (.inr (.inl h13))]
      have HF := Lib.hid hF
      clear hF hTs hTl
      go_enter Tryd.func6, Tryd.ntmps6
      go_wp2_with (first
        | (go_at_call_of 16 (Value.string s); refine (HC.out.1 _).mono ?_; rintro e w1 ⟨rfl, rfl⟩)
        | (go_at_call_of 17 (Value.string T); refine (HC.out.2 _).mono ?_; rintro e w2 ⟨⟨k', rfl, hk'⟩, hb2⟩; obtain rfl : k = k' := by { rw [← HK.out, ← HT.out.2]; exact isrun_digN hk' }; have hNN := HW.out.2.step hb2 hl0; have hc0 := hNN.c0; have hc1 := hNN.c1; have hc2 := hNN.c2; have hf0 := hNN.f0; have hf1 := hNN.f1; have hf2 := hNN.f2; have hd1' := hNN.d1 (.bool false); have hd2' := hNN.d2 (.bool false) (.int .i64 0); have HB2 := Lib.hid (And.intro hNN (And.intro hb2 (Below.next0 HW.out.1 hb2))); clear hNN hb2 hk'))
      have hS5 := HB2.out.1.store (.bool false) (.int .i64 0) (.slice none 0 0)
      have k0 := hS5.c0
      have k1 := hS5.c1
      have k2 := hS5.c2
      have hb5 := NumBox.below HB2.out.2.2 (Nat.le_refl _) (.bool false) (.int .i64 0) (.slice none 0 0)
      clear hS5 hc0 hc1 hc2 hf0 hf1 hf2 hd1' hd2'
      generalize World.setCell _ _ _ = W5 at k0 k1 k2 hb5 ⊢
      refine ⟨rfl, .tuple #[.agg #[.bool false, .int .i64 0, .slice none 0 0], .int .i64 5], by simp [results, go_sem, k0, k1, k2], NumRes.of (ParseOut.none_ HF.out) (WordsIn.nil_ _) hb5⟩
    · have hk13 : ¬ (1300 : Int) < (k : Int) := by omega
      have hT0 : 0 < T.size := by omega
      have hhd : t.headD 0 = (T[0]'hT0) := by
        have h := head_at (s := T) (at_ := 0) hT0
        rw [List.drop_zero, HT.out.2] at h
        exact h
      have HHD := Lib.hid hhd
      clear hhd
      by_cases hz : (T[0]'hT0) = 48 ∧ (neg = true ∨ 1 < t.length)
      · obtain ⟨h48, hz2⟩ := hz
        have h48' : (((T[0]'hT0).toNat : Int) == 48) = true := by rw [h48]; rfl
        cases neg
        · have h1l : 1 < t.length := by rcases hz2 with h | h; cases h; exact h
          have h1I : (1 : Int) < (T.size : Int) := by omega
          have hF : form s.data.toList = none := by rw [HFO.out, if_pos (.inr (.inr ⟨by rw [HHD.out]; exact h48, .inr h1l⟩))]
          have HF := Lib.hid hF
          clear hF hTs hTl h48 hz2
          go_enter Tryd.func6, Tryd.ntmps6
          go_wp2_with (first
            | (go_at_call_of 16 (Value.string s); refine (HC.out.1 _).mono ?_; rintro e w1 ⟨rfl, rfl⟩)
            | (go_at_call_of 17 (Value.string T); refine (HC.out.2 _).mono ?_; rintro e w2 ⟨⟨k', rfl, hk'⟩, hb2⟩; obtain rfl : k = k' := by { rw [← HK.out, ← HT.out.2]; exact isrun_digN hk' }; have hNN := HW.out.2.step hb2 hl0; have hc0 := hNN.c0; have hc1 := hNN.c1; have hc2 := hNN.c2; have hf0 := hNN.f0; have hf1 := hNN.f1; have hf2 := hNN.f2; have hd1' := hNN.d1 (.bool false); have hd2' := hNN.d2 (.bool false) (.int .i64 0); have HB2 := Lib.hid (And.intro hNN (And.intro hb2 (Below.next0 HW.out.1 hb2))); clear hNN hb2 hk'))
          have hS5 := HB2.out.1.store (.bool false) (.int .i64 0) (.slice none 0 0)
          have k0 := hS5.c0
          have k1 := hS5.c1
          have k2 := hS5.c2
          have hb5 := NumBox.below HB2.out.2.2 (Nat.le_refl _) (.bool false) (.int .i64 0) (.slice none 0 0)
          clear hS5 hc0 hc1 hc2 hf0 hf1 hf2 hd1' hd2'
          generalize World.setCell _ _ _ = W5 at k0 k1 k2 hb5 ⊢
          refine ⟨rfl, .tuple #[.agg #[.bool false, .int .i64 0, .slice none 0 0], .int .i64 5], by simp [results, go_sem, k0, k1, k2], NumRes.of (ParseOut.none_ HF.out) (WordsIn.nil_ _) hb5⟩
        · skip
          have hF : form s.data.toList = none := by rw [HFO.out, if_pos (.inr (.inr ⟨by rw [HHD.out]; exact h48, .inl rfl⟩))]
          have HF := Lib.hid hF
          clear hF hTs hTl h48 hz2
          go_enter Tryd.func6, Tryd.ntmps6
          go_wp2_with (first
            | (go_at_call_of 16 (Value.string s); refine (HC.out.1 _).mono ?_; rintro e w1 ⟨rfl, rfl⟩)
            | (go_at_call_of 17 (Value.string T); refine (HC.out.2 _).mono ?_; rintro e w2 ⟨⟨k', rfl, hk'⟩, hb2⟩; obtain rfl : k = k' := by { rw [← HK.out, ← HT.out.2]; exact isrun_digN hk' }; have hNN := HW.out.2.step hb2 hl0; have hc0 := hNN.c0; have hc1 := hNN.c1; have hc2 := hNN.c2; have hf0 := hNN.f0; have hf1 := hNN.f1; have hf2 := hNN.f2; have hd1' := hNN.d1 (.bool false); have hd2' := hNN.d2 (.bool false) (.int .i64 0); have HB2 := Lib.hid (And.intro hNN (And.intro hb2 (Below.next0 HW.out.1 hb2))); clear hNN hb2 hk'))
          have hS5 := HB2.out.1.store (.bool false) (.int .i64 0) (.slice none 0 0)
          have k0 := hS5.c0
          have k1 := hS5.c1
          have k2 := hS5.c2
          have hb5 := NumBox.below HB2.out.2.2 (Nat.le_refl _) (.bool false) (.int .i64 0) (.slice none 0 0)
          clear hS5 hc0 hc1 hc2 hf0 hf1 hf2 hd1' hd2'
          generalize World.setCell _ _ _ = W5 at k0 k1 k2 hb5 ⊢
          refine ⟨rfl, .tuple #[.agg #[.bool false, .int .i64 0, .slice none 0 0], .int .i64 5], by simp [results, go_sem, k0, k1, k2], NumRes.of (ParseOut.none_ HF.out) (WordsIn.nil_ _) hb5⟩
      · have hfo := HFO.out
        rw [if_neg (by rintro (h | h | h); exact h1 h; exact h13 h; (rw [HHD.out] at h; exact hz h))] at hfo
        obtain ⟨u, hu⟩ : ∃ u : ByteArray, T.extract 0 k = u := ⟨_, rfl⟩
        obtain ⟨rest, hrest⟩ : ∃ r : ByteArray, T.extract k T.size = r := ⟨_, rfl⟩
        have hul : u.data.toList = t.take k := by rw [← hu, ext_take, HT.out.2]
        have hrl : rest.data.toList = t.drop k := by rw [← hrest, ext_drop, HT.out.2]
        have hus : u.size = k := by
          have : u.data.toList.length = u.size := rfl
          rw [← this, hul, List.length_take]; omega
        have hrs : rest.size ≤ T.size := by
          have : rest.data.toList.length = rest.size := rfl
          rw [← this, hrl, List.length_drop]; omega
        rw [← hul, ← hrl] at hfo
        have hau : allD u.data.toList := by rw [hul]; exact HTA.out
        have hpw := fun W => power_any rest W (by omega)
        have hwd := fun W => words_any u W (by omega) hau
        have hvl : (dig (2 ^ 64) (dv u.data.toList)).length ≤ 1300 := by
          have h := dig_len_le (B := 2 ^ 64) (by decide) (Nat.lt_of_lt_of_le (dv_lt u.data.toList hau) (Nat.pow_le_pow_left (by decide) u.data.toList.length))
          have : u.data.toList.length = u.size := rfl
          omega
        have HP := Lib.hid (And.intro hpw (And.intro hwd (And.intro hfo hvl)))
        have HZ := Lib.hid hz
        clear hpw hwd hfo hvl hau hul hrl hrs hus hz HFO
        have hfo2 := HP.out.2.2.1
        have hkT : (k : Int) ≤ (T.size : Int) := by omega
        cases hex : expo rest.data.toList with
        | none =>
          have hpw : ∀ W, Calls Tryd.prog 18 #[.string rest] W fun e w' => ∃ x : Int, e = .returned (.tuple #[.int .i64 x, .bool false]) ∧ Below W.heap.size W w' := fun W => (HP.out.1 W).mono (by
            rintro e w' ⟨⟨x, ok, rfl, ⟨_, h, _⟩ | ⟨rfl, _⟩⟩, hb⟩
            · rw [hex] at h; cases h
            · exact ⟨x, rfl, hb⟩)
          rw [hex] at hfo2
          have HPW := Lib.hid hpw
          have HF := Lib.hid (show form s.data.toList = none from hfo2)
          clear hpw hfo2 hex
          by_cases h48 : (T[0]'hT0) = 48
          · have h48' : (((T[0]'hT0).toNat : Int) == 48) = true := by rw [h48]; rfl
            obtain rfl : neg = false := by
              cases neg
              · rfl
              · exact absurd ⟨h48, .inl rfl⟩ HZ.out
            have h1I : ¬ (1 : Int) < (T.size : Int) := fun h => HZ.out ⟨h48, .inr (by omega)⟩
            clear h48 hTs hTl
            go_enter Tryd.func6, Tryd.ntmps6
            go_wp2_with (first
              | (go_at_call_of 16 (Value.string s); refine (HC.out.1 _).mono ?_; rintro e w1 ⟨rfl, rfl⟩)
              | (go_at_call_of 17 (Value.string T); refine (HC.out.2 _).mono ?_; rintro e w2 ⟨⟨k', rfl, hk'⟩, hb2⟩; obtain rfl : k = k' := by { rw [← HK.out, ← HT.out.2]; exact isrun_digN hk' }; have HB2 := Lib.hid hb2; clear hb2 hk')
              | (refine (HPW.out _).mono ?_; rintro e w3 ⟨x, rfl, hb3⟩; have hbx := Below.next0 HB2.out hb3; have hNN := HW.out.2.step hbx hl0; have hc0 := hNN.c0; have hc1 := hNN.c1; have hc2 := hNN.c2; have hf0 := hNN.f0; have hf1 := hNN.f1; have hf2 := hNN.f2; have hd1' := hNN.d1 (.bool false); have hd2' := hNN.d2 (.bool false) (.int .i64 0); have HB3 := Lib.hid (And.intro hNN (Below.next0 HW.out.1 hbx)); clear hNN hb3 hbx))
            have hS5 := HB3.out.1.store (.bool false) (.int .i64 0) (.slice none 0 0)
            have k0 := hS5.c0
            have k1 := hS5.c1
            have k2 := hS5.c2
            have hb5 := NumBox.below HB3.out.2 (Nat.le_refl _) (.bool false) (.int .i64 0) (.slice none 0 0)
            clear hS5 hc0 hc1 hc2 hf0 hf1 hf2 hd1' hd2'
            generalize World.setCell _ _ _ = W5 at k0 k1 k2 hb5 ⊢
            refine ⟨rfl, .tuple #[.agg #[.bool false, .int .i64 0, .slice none 0 0], .int .i64 5], by simp [results, go_sem, k0, k1, k2], NumRes.of (ParseOut.none_ HF.out) (WordsIn.nil_ _) hb5⟩
          · have h48' : (((T[0]'hT0).toNat : Int) == 48) = false := by rw [beq_eq_false_iff_ne]; intro e; exact h48 (UInt8.toNat_inj.1 (show (T[0]'hT0).toNat = 48 by omega))
            clear h48 hTs hTl
            go_enter Tryd.func6, Tryd.ntmps6
            go_wp2_with (first
              | (go_at_call_of 16 (Value.string s); refine (HC.out.1 _).mono ?_; rintro e w1 ⟨rfl, rfl⟩)
              | (go_at_call_of 17 (Value.string T); refine (HC.out.2 _).mono ?_; rintro e w2 ⟨⟨k', rfl, hk'⟩, hb2⟩; obtain rfl : k = k' := by { rw [← HK.out, ← HT.out.2]; exact isrun_digN hk' }; have HB2 := Lib.hid hb2; clear hb2 hk')
              | (refine (HPW.out _).mono ?_; rintro e w3 ⟨x, rfl, hb3⟩; have hbx := Below.next0 HB2.out hb3; have hNN := HW.out.2.step hbx hl0; have hc0 := hNN.c0; have hc1 := hNN.c1; have hc2 := hNN.c2; have hf0 := hNN.f0; have hf1 := hNN.f1; have hf2 := hNN.f2; have hd1' := hNN.d1 (.bool false); have hd2' := hNN.d2 (.bool false) (.int .i64 0); have HB3 := Lib.hid (And.intro hNN (Below.next0 HW.out.1 hbx)); clear hNN hb3 hbx))
            have hS5 := HB3.out.1.store (.bool false) (.int .i64 0) (.slice none 0 0)
            have k0 := hS5.c0
            have k1 := hS5.c1
            have k2 := hS5.c2
            have hb5 := NumBox.below HB3.out.2 (Nat.le_refl _) (.bool false) (.int .i64 0) (.slice none 0 0)
            clear hS5 hc0 hc1 hc2 hf0 hf1 hf2 hd1' hd2'
            generalize World.setCell _ _ _ = W5 at k0 k1 k2 hb5 ⊢
            refine ⟨rfl, .tuple #[.agg #[.bool false, .int .i64 0, .slice none 0 0], .int .i64 5], by simp [results, go_sem, k0, k1, k2], NumRes.of (ParseOut.none_ HF.out) (WordsIn.nil_ _) hb5⟩
        | some ex =>
          have hexb : -1000000 ≤ ex ∧ ex ≤ 1000000 := by
            have h := expo_bound rest.data.toList ex hex
            exact h
          obtain ⟨hex1, hex2⟩ := hexb
          have hpw : ∀ W, Calls Tryd.prog 18 #[.string rest] W fun e w' => e = .returned (.tuple #[.int .i64 ex, .bool true]) ∧ Below W.heap.size W w' := fun W => (HP.out.1 W).mono (by
            rintro e w' ⟨⟨x, ok, rfl, ⟨rfl, h, _⟩ | ⟨_, h⟩⟩, hb⟩
            · rw [hex] at h; injection h with h; subst h; exact ⟨rfl, hb⟩
            · rw [hex] at h; cases h)
          rw [hex] at hfo2
          have HPW := Lib.hid hpw
          have HF := Lib.hid (show form s.data.toList = some (neg, dv u.data.toList, ex) from hfo2)
          clear hpw hfo2 hex
          by_cases h48 : (T[0]'hT0) = 48
          · have h48' : (((T[0]'hT0).toNat : Int) == 48) = true := by rw [h48]; rfl
            obtain rfl : neg = false := by
              cases neg
              · rfl
              · exact absurd ⟨h48, .inl rfl⟩ HZ.out
            have h1I : ¬ (1 : Int) < (T.size : Int) := fun h => HZ.out ⟨h48, .inr (by omega)⟩
            clear h48 hTs hTl
            go_enter Tryd.func6, Tryd.ntmps6
            go_wp2_with (first
              | (go_at_call_of 16 (Value.string s); refine (HC.out.1 _).mono ?_; rintro e w1 ⟨rfl, rfl⟩)
              | (go_at_call_of 17 (Value.string T); refine (HC.out.2 _).mono ?_; rintro e w2 ⟨⟨k', rfl, hk'⟩, hb2⟩; obtain rfl : k = k' := by { rw [← HK.out, ← HT.out.2]; exact isrun_digN hk' }; have HB2 := Lib.hid hb2; clear hb2 hk')
              | (go_at_call_of 18 (Value.string rest); refine (HPW.out _).mono ?_; rintro e w3 ⟨rfl, hb3⟩; have HB3 := Lib.hid (Below.next0 HB2.out hb3); clear hb3)
              | (go_at_call_of 19 (Value.string u); refine (HP.out.2.1 _).mono ?_; rintro e w4 ⟨a4, n4, c4, rfl, hW4, hb4⟩; have HB4 := Lib.hid (And.intro hW4 (Below.next0 HB3.out hb4)); clear hW4 hb4)
              | (refine (nummake_any false a4 n4 c4 _ ex w4 HB4.out.1 (HTI.out.step (Below.next0 HW.out.1 HB4.out.2)) (by rw [← HB4.out.1.len]; exact Nat.le_trans HP.out.2.2.2 (by decide)) (by omega) (by omega)).mono ?_; rintro e w5 ⟨neg5, e5, a5, n5, c5, L, er, rfl, hmo, hW5, hb5⟩; rw [val_dig (by decide)] at hmo; have hbx := Below.next0 HB4.out.2 hb5; have hNN := HW.out.2.step hbx hl0; have hc0 := hNN.c0; have hc1 := hNN.c1; have hc2 := hNN.c2; have hf0 := hNN.f0; have hf1 := hNN.f1; have hf2 := hNN.f2; have hd1' := hNN.d1 (.bool neg5); have hd2' := hNN.d2 (.bool neg5) (.int .i64 e5); have HB5 := Lib.hid (And.intro hNN (And.intro (Below.next0 HW.out.1 hbx) (And.intro hW5 hmo))); clear hNN hb5 hbx hW5 hmo))
            have hS5 := HB5.out.1.store (.bool neg5) (.int .i64 e5) (.slice a5 n5 c5)
            have k0 := hS5.c0
            have k1 := hS5.c1
            have k2 := hS5.c2
            have hb6 := NumBox.below HB5.out.2.1 (Nat.le_refl _) (.bool neg5) (.int .i64 e5) (.slice a5 n5 c5)
            have hWw := HB5.out.2.2.1
            have hW6 : WordsIn _ a5 n5 c5 L := ⟨hWw.len, hWw.cap, hWw.most, hWw.low, (hWw.rd.store3 HB5.out.1 (fun _ => by simp [nv]) (fun _ => by simp [nv]) (fun _ => by simp [nv]) (.bool neg5) (.int .i64 e5) (.slice a5 n5 c5)).more (box_size _ _ _ _ _)⟩
            clear hS5 hc0 hc1 hc2 hf0 hf1 hf2 hd1' hd2' hWw
            generalize World.setCell _ _ _ = W5 at k0 k1 k2 hb6 hW6 ⊢
            refine ⟨rfl, .tuple #[.agg #[.bool neg5, .int .i64 e5, .slice a5 n5 c5], .int .i64 er], by simp [results, go_sem, k0, k1, k2], NumRes.of (ParseOut.some_ HF.out HB5.out.2.2.2) hW6 hb6⟩
          · have h48' : (((T[0]'hT0).toNat : Int) == 48) = false := by rw [beq_eq_false_iff_ne]; intro e; exact h48 (UInt8.toNat_inj.1 (show (T[0]'hT0).toNat = 48 by omega))
            clear h48 hTs hTl
            go_enter Tryd.func6, Tryd.ntmps6
            go_wp2_with (first
              | (go_at_call_of 16 (Value.string s); refine (HC.out.1 _).mono ?_; rintro e w1 ⟨rfl, rfl⟩)
              | (go_at_call_of 17 (Value.string T); refine (HC.out.2 _).mono ?_; rintro e w2 ⟨⟨k', rfl, hk'⟩, hb2⟩; obtain rfl : k = k' := by { rw [← HK.out, ← HT.out.2]; exact isrun_digN hk' }; have HB2 := Lib.hid hb2; clear hb2 hk')
              | (go_at_call_of 18 (Value.string rest); refine (HPW.out _).mono ?_; rintro e w3 ⟨rfl, hb3⟩; have HB3 := Lib.hid (Below.next0 HB2.out hb3); clear hb3)
              | (go_at_call_of 19 (Value.string u); refine (HP.out.2.1 _).mono ?_; rintro e w4 ⟨a4, n4, c4, rfl, hW4, hb4⟩; have HB4 := Lib.hid (And.intro hW4 (Below.next0 HB3.out hb4)); clear hW4 hb4)
              | (refine (nummake_any neg a4 n4 c4 _ ex w4 HB4.out.1 (HTI.out.step (Below.next0 HW.out.1 HB4.out.2)) (by rw [← HB4.out.1.len]; exact Nat.le_trans HP.out.2.2.2 (by decide)) (by omega) (by omega)).mono ?_; rintro e w5 ⟨neg5, e5, a5, n5, c5, L, er, rfl, hmo, hW5, hb5⟩; rw [val_dig (by decide)] at hmo; have hbx := Below.next0 HB4.out.2 hb5; have hNN := HW.out.2.step hbx hl0; have hc0 := hNN.c0; have hc1 := hNN.c1; have hc2 := hNN.c2; have hf0 := hNN.f0; have hf1 := hNN.f1; have hf2 := hNN.f2; have hd1' := hNN.d1 (.bool neg5); have hd2' := hNN.d2 (.bool neg5) (.int .i64 e5); have HB5 := Lib.hid (And.intro hNN (And.intro (Below.next0 HW.out.1 hbx) (And.intro hW5 hmo))); clear hNN hb5 hbx hW5 hmo))
            have hS5 := HB5.out.1.store (.bool neg5) (.int .i64 e5) (.slice a5 n5 c5)
            have k0 := hS5.c0
            have k1 := hS5.c1
            have k2 := hS5.c2
            have hb6 := NumBox.below HB5.out.2.1 (Nat.le_refl _) (.bool neg5) (.int .i64 e5) (.slice a5 n5 c5)
            have hWw := HB5.out.2.2.1
            have hW6 : WordsIn _ a5 n5 c5 L := ⟨hWw.len, hWw.cap, hWw.most, hWw.low, (hWw.rd.store3 HB5.out.1 (fun _ => by simp [nv]) (fun _ => by simp [nv]) (fun _ => by simp [nv]) (.bool neg5) (.int .i64 e5) (.slice a5 n5 c5)).more (box_size _ _ _ _ _)⟩
            clear hS5 hc0 hc1 hc2 hf0 hf1 hf2 hd1' hd2' hWw
            generalize World.setCell _ _ _ = W5 at k0 k1 k2 hb6 hW6 ⊢
            refine ⟨rfl, .tuple #[.agg #[.bool neg5, .int .i64 e5, .slice a5 n5 c5], .int .i64 er], by simp [results, go_sem, k0, k1, k2], NumRes.of (ParseOut.some_ HF.out HB5.out.2.2.2) hW6 hb6⟩
end Go.Proofs.YtmocmkfpblakbaaDoor
