/- The walk of the digits' power. Condition: Go's own limit of a text. -/
import Derived.Test.YtmocmkfpblakbaaDoorDigD
import Derived.Test.YtmocmkfpblakbaaDoorRefL
namespace Go.Proofs.YtmocmkfpblakbaaDoor
open Go.RowKit WordsM DecM

theorem pre_one (l : List UInt8) (b : UInt8) : Lib.hasPrefix l [b] = (match l with | [] => false | c :: _ => decide (c = b)) ∧ Lib.trimPrefix l [b] = (match l with | [] => [] | c :: r => if c = b then r else c :: r) := by
  cases l with
  | nil => exact ⟨rfl, rfl⟩
  | cons c r =>
    by_cases h : c = b
    · subst h; simp [Lib.hasPrefix, Lib.trimPrefix]
    · have h2 : ¬ b = c := fun e => h e.symm
      simp [Lib.hasPrefix, Lib.trimPrefix, List.isPrefixOf, h, h2]
theorem pre_minus (l : List UInt8) : Lib.hasPrefix l [45] = (minus l).1 ∧ Lib.trimPrefix l [45] = (minus l).2 := by
  have h := pre_one l 45
  cases l with
  | nil => exact ⟨by rw [h.1]; rfl, by rw [h.2]; rfl⟩
  | cons c r =>
    by_cases hc : c = 45
    · rw [h.1, h.2]; simp [minus, hc]
    · rw [h.1, h.2]; simp [minus, hc]
theorem of_list (s : ByteArray) (l : List UInt8) (h : s.data.toList = l) : s = ⟨l.toArray⟩ := by
  subst h
  exact ByteArray.ext (by simp)
theorem parseInt64 (l : List UInt8) (h : allD l) (h0 : l ≠ []) (hl : l.length ≤ 6) : Lib.parseIntB 64 l = .ok (dv l : Int) := by
  have hp := parse64 l h h0 (by omega)
  have hb : dv l < 10 ^ 6 := Nat.lt_of_lt_of_le (dv_lt l h) (Nat.pow_le_pow_right (by decide) hl)
  have e6 : (10 : Nat) ^ 6 = 1000000 := rfl
  rw [e6] at hb
  cases l with
  | nil => exact absurd rfl h0
  | cons c r =>
    have hc := h c (by simp)
    unfold Lib.parseIntB
    simp only
    rw [if_neg (by omega), hp]
    simp only
    have hn : ¬ c.toNat = 45 := by omega
    have e63 : (2 : Nat) ^ 63 = 9223372036854775808 := rfl
    rw [if_neg (by rintro ⟨_, h2⟩; rw [show 64 - 1 = 63 from rfl, e63] at h2; omega), if_neg (by rintro ⟨h2, _⟩; exact hn h2)]
    simp [hn]
theorem isrun_digN {s : ByteArray} {k : Nat} (h : IsRun s k) : digN s.data.toList = k := by
  have h1 := run_digN (s := s) (at_ := 0) (k := k) (Nat.zero_le _) h.1 (fun j hj _ hk => h.2.1 j hj hk) h.2.2
  rw [List.drop_zero] at h1
  omega
/-- what power gives -/
def PowRes (w0 : World) (S : List UInt8) (e : Ending) (w' : World) : Prop :=
  (∃ (x : Int) (ok : Bool), e = .returned (.tuple #[.int .i64 x, .bool ok]) ∧ (ok = true ∧ expo S = some x ∧ -1000000 ≤ x ∧ x ≤ 1000000 ∨ ok = false ∧ expo S = none)) ∧ Below w0.heap.size w0 w'
theorem PowRes.good {w0 w' : World} {S : List UInt8} {x : Int} (h : expo S = some x) (h1 : -1000000 ≤ x) (h2 : x ≤ 1000000) (hb : Below w0.heap.size w0 w') : PowRes w0 S (.returned (.tuple #[.int .i64 x, .bool true])) w' := ⟨⟨x, true, rfl, .inl ⟨rfl, h, h1, h2⟩⟩, hb⟩
theorem PowRes.bad {w0 w' : World} {S : List UInt8} {x : Int} (h : expo S = none) (hb : Below w0.heap.size w0 w') : PowRes w0 S (.returned (.tuple #[.int .i64 x, .bool false])) w' := ⟨⟨x, false, rfl, .inr ⟨rfl, h⟩⟩, hb⟩
set_option maxRecDepth 100000 in
set_option maxHeartbeats 8000000 in
theorem power_any (s : ByteArray) (w : World) (hs : s.size ≤ 281474976710656) :
    Calls Tryd.prog 18 #[.string s] w (PowRes w s.data.toList) := by
  have hlen : s.data.toList.length = s.size := rfl
  by_cases h0 : s.size = 0
  · have hnil : s.data.toList = [] := List.length_eq_zero_iff.1 (by rw [hlen]; exact h0)
    have hse : s = ⟨#[]⟩ := of_list s [] hnil
    subst hse
    go_enter Tryd.func18, Tryd.ntmps18
    go_wp2_with fail
    refine ⟨rfl, .tuple #[.int .i64 0, .bool true], by simp [results, go_sem], PowRes.good rfl (by decide) (by decide) (Below.refl _ _)⟩
  · obtain ⟨c, r, hS⟩ : ∃ c r, s.data.toList = c :: r := by
      cases h : s.data.toList with
      | nil => rw [h] at hlen; simp at hlen; omega
      | cons c r => exact ⟨c, r, rfl⟩
    have hse : s = ⟨(c :: r).toArray⟩ := of_list s _ hS
    have hne : ¬ s = ⟨#[]⟩ := fun e => h0 (by rw [e]; rfl)
    have hne2 : s.toList.isEmpty = false := by rw [ByteArray.toList_eq, hS]; rfl
    rw [hS]
    have hc1 := fun W => Tryd.strings_CutPrefix s ⟨#[112]⟩ W
    rw [hS] at hc1
    by_cases hp : c = 112
    · subst hp
      have hp1 := pre_one (112 :: r) 112
      simp only [if_true] at hp1
      have hq := pre_minus r
      have hrl : r.length ≤ 281474976710656 := by rw [hS] at hlen; simp at hlen; omega
      have hc1' : ∀ W, Calls Tryd.prog 16 #[.string s, .string ⟨#[112]⟩] W fun e w' => e = .returned (.tuple #[.string ⟨r.toArray⟩, .bool true]) ∧ W = w' := fun W => (hc1 W).mono (by
        rintro e w' ⟨rfl, rfl⟩
        refine ⟨?_, rfl⟩
        show Ending.returned (.tuple #[.string ⟨(Lib.trimPrefix (112 :: r) [112]).toArray⟩, .bool (Lib.hasPrefix (112 :: r) [112])]) = _
        rw [hp1.1, hp1.2]; simp)
      obtain ⟨low, t, hmt⟩ : ∃ low t, minus r = (low, t) := ⟨_, _, rfl⟩
      have hc2' : ∀ W, Calls Tryd.prog 16 #[.string ⟨r.toArray⟩, .string ⟨#[45]⟩] W fun e w' => e = .returned (.tuple #[.string ⟨t.toArray⟩, .bool low]) ∧ W = w' := fun W => (Tryd.strings_CutPrefix ⟨r.toArray⟩ ⟨#[45]⟩ W).mono (by
        rintro e w' ⟨rfl, rfl⟩
        refine ⟨?_, rfl⟩
        show Ending.returned (.tuple #[.string ⟨(Lib.trimPrefix (r.toArray.toList) [45]).toArray⟩, .bool (Lib.hasPrefix (r.toArray.toList) [45])]) = _
        rw [List.toList_toArray, hq.1, hq.2, hmt])
      have htl : t.length ≤ r.length := by
        have h1 : (minus r).2.length ≤ r.length := by
          cases r with
          | nil => simp [minus]
          | cons x y => simp only [minus]; split <;> simp
        rw [hmt] at h1; exact h1
      have hex : expo (112 :: r) = if t.length < 1 ∨ 6 < t.length ∨ digN t < t.length ∨ t.headD 0 = 48 then none else some (if low = true then -(dv t : Int) else (dv t : Int)) := by
        rw [expo, if_neg (by simp), hmt]
      have HC := Lib.hid (And.intro hc1' (And.intro hc2' hex))
      obtain ⟨T, hT⟩ : ∃ T : ByteArray, T = ⟨t.toArray⟩ := ⟨_, rfl⟩
      have hTs : T.size = t.length := by rw [hT]; rfl
      have hTl : T.data.toList = t := by rw [hT]
      rw [← hT] at HC
      have HT := Lib.hid (And.intro hTs hTl)
      clear hc1 hc1' hc2' hp1 hq hmt hex hT hS hse
      have hrun := fun W => run_any T W (by omega)
      obtain ⟨k, hk⟩ : ∃ k, digN t = k := ⟨_, rfl⟩
      have hkl := digN_le t
      rw [hk] at hkl
      have HK := Lib.hid hk
      clear hk hlen hs
      by_cases h1 : t.length < 1
      · have hTI : (T.size : Int) < 1 := by omega
        have hE : expo (112 :: r) = none := by rw [HC.out.2.2, if_pos (.inl h1)]
        have HE := Lib.hid hE
        clear hE
        clear hTs hTl
        go_enter Tryd.func18, Tryd.ntmps18
        go_wp2_with (first
          | (go_at_call_of 16 (Value.string s); refine (HC.out.1 _).mono ?_; rintro e w1 ⟨rfl, rfl⟩)
          | (go_at_call_of 16 (Value.string ⟨r.toArray⟩); refine (HC.out.2.1 _).mono ?_; rintro e w1 ⟨rfl, rfl⟩))
        refine ⟨rfl, .tuple #[.int .i64 0, .bool false], by simp [results, go_sem], PowRes.bad HE.out (Below.refl _ _)⟩
      · have hTI : ¬ (T.size : Int) < 1 := by omega
        by_cases h6 : 6 < t.length
        · have hT6 : (6 : Int) < (T.size : Int) := by omega
          have hE : expo (112 :: r) = none := by rw [HC.out.2.2, if_pos (.inr (.inl h6))]
          have HE := Lib.hid hE
          clear hE
          clear hTs hTl
          go_enter Tryd.func18, Tryd.ntmps18
          go_wp2_with (first
            | (go_at_call_of 16 (Value.string s); refine (HC.out.1 _).mono ?_; rintro e w1 ⟨rfl, rfl⟩)
            | (go_at_call_of 16 (Value.string ⟨r.toArray⟩); refine (HC.out.2.1 _).mono ?_; rintro e w1 ⟨rfl, rfl⟩))
          refine ⟨rfl, .tuple #[.int .i64 0, .bool false], by simp [results, go_sem], PowRes.bad HE.out (Below.refl _ _)⟩
        · have hT6 : ¬ (6 : Int) < (T.size : Int) := by omega
          by_cases hkt : k < t.length
          · have hkI : (k : Int) < (T.size : Int) := by omega
            have hE : expo (112 :: r) = none := by rw [HC.out.2.2, if_pos (.inr (.inr (.inl (by rw [HK.out]; exact hkt))))]
            have HE := Lib.hid hE
            clear hE
            clear hTs hTl
            go_enter Tryd.func18, Tryd.ntmps18
            go_wp2_with (first
              | (go_at_call_of 16 (Value.string s); refine (HC.out.1 _).mono ?_; rintro e w1 ⟨rfl, rfl⟩)
              | (go_at_call_of 16 (Value.string ⟨r.toArray⟩); refine (HC.out.2.1 _).mono ?_; rintro e w1 ⟨rfl, rfl⟩)
              | (refine (hrun _).mono ?_; rintro e w2 ⟨⟨k', rfl, hk'⟩, hb2⟩; obtain rfl : k = k' := by { rw [← HK.out, ← HT.out.2]; exact isrun_digN hk' }; have HB2 := Lib.hid hb2; clear hb2 hk'))
            refine ⟨rfl, .tuple #[.int .i64 0, .bool false], by simp [results, go_sem], PowRes.bad HE.out (HB2.out)⟩
          · have hkI : ¬ (k : Int) < (T.size : Int) := by omega
            have hT0 : 0 < T.size := by omega
            have hhd : t.headD 0 = (T[0]'hT0) := by
              have h := head_at (s := T) (at_ := 0) hT0
              rw [List.drop_zero, HT.out.2] at h
              exact h
            by_cases h48 : (T[0]'hT0) = 48
            · have h48' : (((T[0]'hT0).toNat : Int) == 48) = true := by rw [h48]; rfl
              have hE : expo (112 :: r) = none := by rw [HC.out.2.2, if_pos (.inr (.inr (.inr (by rw [hhd]; exact h48))))]
              have HE := Lib.hid hE
              clear hE
              clear hTs hTl
              go_enter Tryd.func18, Tryd.ntmps18
              go_wp2_with (first
                | (go_at_call_of 16 (Value.string s); refine (HC.out.1 _).mono ?_; rintro e w1 ⟨rfl, rfl⟩)
                | (go_at_call_of 16 (Value.string ⟨r.toArray⟩); refine (HC.out.2.1 _).mono ?_; rintro e w1 ⟨rfl, rfl⟩)
                | (refine (hrun _).mono ?_; rintro e w2 ⟨⟨k', rfl, hk'⟩, hb2⟩; obtain rfl : k = k' := by { rw [← HK.out, ← HT.out.2]; exact isrun_digN hk' }; have HB2 := Lib.hid hb2; clear hb2 hk'))
              refine ⟨rfl, .tuple #[.int .i64 0, .bool false], by simp [results, go_sem], PowRes.bad HE.out (HB2.out)⟩
            · have h48' : (((T[0]'hT0).toNat : Int) == 48) = false := by rw [beq_eq_false_iff_ne]; intro e; exact h48 (UInt8.toNat_inj.1 (show (T[0]'hT0).toNat = 48 by omega))
              have hall : allD t := by
                have h := digN_take t
                rw [HK.out, List.take_of_length_le (by omega)] at h
                exact h
              have hE := HC.out.2.2
              rw [if_neg (by rintro (h | h | h | h); exact h1 h; exact h6 h; (rw [HK.out] at h; exact hkt h); (rw [hhd] at h; exact h48 h))] at hE
              have hpi := parseInt64 t hall (fun e => by rw [e] at h1; simp at h1) (by omega)
              have hdvl : dv t < 10 ^ 6 := Nat.lt_of_lt_of_le (dv_lt t hall) (Nat.pow_le_pow_right (by decide) (by omega))
              have e6 : (10 : Nat) ^ 6 = 1000000 := rfl
              rw [e6] at hdvl
              obtain ⟨x, hx⟩ : ∃ x, dv t = x := ⟨_, rfl⟩
              rw [hx] at hE hpi hdvl
              have hxI : (x : Int) ≤ 1000000 := by omega
              have hpa := fun W => Tryd.strconv_ParseInt_10_at64_ok T (by omega) (x : Int) (by rw [HT.out.2]; exact hpi) W
              have HP := Lib.hid hpa
              clear hpa hpi hx hdvl e6 hall hhd h48 hkt
              cases low
              · have HE := Lib.hid (show expo (112 :: r) = some (x : Int) from hE)
                clear hE
                clear hTs hTl
                go_enter Tryd.func18, Tryd.ntmps18
                go_wp2_with (first
                  | (go_at_call_of 16 (Value.string s); refine (HC.out.1 _).mono ?_; rintro e w1 ⟨rfl, rfl⟩)
                  | (go_at_call_of 16 (Value.string ⟨r.toArray⟩); refine (HC.out.2.1 _).mono ?_; rintro e w1 ⟨rfl, rfl⟩)
                  | (refine (hrun _).mono ?_; rintro e w2 ⟨⟨k', rfl, hk'⟩, hb2⟩; obtain rfl : k = k' := by { rw [← HK.out, ← HT.out.2]; exact isrun_digN hk' }; have HB2 := Lib.hid hb2; clear hb2 hk')
                  | (refine (HP.out _).mono ?_; rintro e w3 ⟨rfl, hw3⟩; have hb3 : Below w2.heap.size w2 w3 := by { rcases hw3 with rfl | ⟨t', rfl⟩; exact Below.refl _ _; exact Lib.bytesWorld_below _ _ _ }; have HB3 := Lib.hid hb3; clear hw3 hb3))
                refine ⟨rfl, .tuple #[.int .i64 (x : Int), .bool true], by simp [results, go_sem], PowRes.good HE.out (by omega) hxI (Below.next0 HB2.out HB3.out)⟩
              · have HE := Lib.hid (show expo (112 :: r) = some (-(x : Int)) from hE)
                clear hE
                clear hTs hTl
                go_enter Tryd.func18, Tryd.ntmps18
                go_wp2_with (first
                  | (go_at_call_of 16 (Value.string s); refine (HC.out.1 _).mono ?_; rintro e w1 ⟨rfl, rfl⟩)
                  | (go_at_call_of 16 (Value.string ⟨r.toArray⟩); refine (HC.out.2.1 _).mono ?_; rintro e w1 ⟨rfl, rfl⟩)
                  | (refine (hrun _).mono ?_; rintro e w2 ⟨⟨k', rfl, hk'⟩, hb2⟩; obtain rfl : k = k' := by { rw [← HK.out, ← HT.out.2]; exact isrun_digN hk' }; have HB2 := Lib.hid hb2; clear hb2 hk')
                  | (refine (HP.out _).mono ?_; rintro e w3 ⟨rfl, hw3⟩; have hb3 : Below w2.heap.size w2 w3 := by { rcases hw3 with rfl | ⟨t', rfl⟩; exact Below.refl _ _; exact Lib.bytesWorld_below _ _ _ }; have HB3 := Lib.hid hb3; clear hw3 hb3))
                refine ⟨rfl, .tuple #[.int .i64 (-(x : Int)), .bool true], by simp [results, go_sem], PowRes.good HE.out (by omega) (by omega) (Below.next0 HB2.out HB3.out)⟩
    · have hp1 := pre_one (c :: r) 112
      simp only [if_neg hp] at hp1
      have hcd : decide (c = 112) = false := decide_eq_false hp
      have hc1' : ∀ W, Calls Tryd.prog 16 #[.string s, .string ⟨#[112]⟩] W fun e w' => e = .returned (.tuple #[.string s, .bool false]) ∧ W = w' := fun W => (hc1 W).mono (by
        rintro e w' ⟨rfl, rfl⟩
        refine ⟨?_, rfl⟩
        show Ending.returned (.tuple #[.string ⟨(Lib.trimPrefix (c :: r) [112]).toArray⟩, .bool (Lib.hasPrefix (c :: r) [112])]) = _
        rw [hp1.1, hp1.2, hcd, ← hse])
      have hc2 := fun W => Tryd.strings_CutPrefix s ⟨#[45]⟩ W
      have hE : expo (c :: r) = none := by rw [expo, if_pos hp]
      have HC := Lib.hid (And.intro hc1' (And.intro hc2 hE))
      clear hc1 hc1' hc2 hp1 hcd hE hS hse hlen
      go_enter Tryd.func18, Tryd.ntmps18
      go_wp2_with (first
        | (go_at_call_of 16 (Value.string ⟨#[112]⟩); refine (HC.out.1 _).mono ?_; rintro e w1 ⟨rfl, rfl⟩)
        | (go_at_call_of 16 (Value.string ⟨#[45]⟩); refine (HC.out.2.1 _).mono ?_; rintro e w1 ⟨rfl, hw1⟩; obtain rfl := hw1.symm))
      refine ⟨rfl, .tuple #[.int .i64 0, .bool false], by simp [results, go_sem], PowRes.bad HC.out.2.2 (Below.refl _ _)⟩
end Go.Proofs.YtmocmkfpblakbaaDoor
