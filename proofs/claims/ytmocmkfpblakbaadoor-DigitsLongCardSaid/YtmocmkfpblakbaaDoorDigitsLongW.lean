/- The walk of DigitsLong. Condition: the arguments are numbers of their kinds; the library's tables lie. -/
import Derived.Test.YtmocmkfpblakbaaDoorLaw4B
import Derived.Test.YtmocmkfpblakbaaDoorDigLongM
import Derived.Test.YtmocmkfpblakbaaDoorRefLeft
import Derived.Test.YtmocmkfpblakbaaDoorFlat
namespace Go.Proofs.YtmocmkfpblakbaaDoor
open Go.RowKit WordsM DecM

theorem whole_num {v : Nat} (hv : v < 3000000) {n1 : Bool} {v1 : Nat} {e1 : Int} (h1 : OddOut false v 0 n1 v1 e1) {n2 : Bool} {e2 : Int} {L : List Nat} {er : Int} (h2 : ValNum n1 v1 e1 n2 e2 L er) :
    ∃ z : Nat, e2 = (z : Int) ∧ z ≤ 22 ∧ val (2 ^ 64) L * 2 ^ z = v ∧ L.length ≤ 1 := by
  rcases h1 with ⟨rfl, rfl, rfl, rfl⟩ | ⟨z, hz, rfl, rfl, rfl⟩
  · rcases h2 with ⟨_, _, rfl, rfl, _⟩ | ⟨h, _⟩ | ⟨h, _⟩
    · exact ⟨0, rfl, by decide, by simp [val], by simp⟩
    · exact absurd rfl h
    · exact absurd rfl h
  · have hp : 0 < 2 ^ z := Nat.pow_pos (by decide)
    have hv0 := hz.pos
    have hzz : z ≤ 22 := by
      refine Nat.le_of_not_lt fun hlt => ?_
      have h3 : 2 ^ 23 ≤ 2 ^ z := Nat.pow_le_pow_right (by decide) hlt
      have h4 : v < 2 ^ z := Nat.lt_of_lt_of_le (by omega) h3
      have h5 := hz.1
      rw [Nat.mod_eq_of_lt h4] at h5
      exact hv0 h5
    have hq := hz.2
    have hmul : v / 2 ^ z * 2 ^ z = v := Nat.div_mul_cancel (Nat.dvd_of_mod_eq_zero hz.1)
    have hlt : v / 2 ^ z < 2 ^ 64 := Nat.lt_of_le_of_lt (Nat.div_le_self _ _) (by omega)
    have hlen : (dig (2 ^ 64) (v / 2 ^ z)).length ≤ 1 := dig_len_le (by decide) (by rw [Nat.pow_one]; exact hlt)
    rcases h2 with ⟨h, _⟩ | ⟨_, h, _⟩ | ⟨_, _, _, rfl, rfl, _⟩
    · omega
    · exact absurd ⟨by omega, by omega, by omega⟩ h
    · exact ⟨z, by omega, hzz, by rw [val_dig (by decide), hmul], hlen⟩
def longL (m V : Nat) : Nat → Option (Value → World → Prop)
  | 2 => some fun u W => ∃ a n c, u = .slice a n c ∧ n ≤ 2 ∧ DigIn W a n c m
  | 5 => some fun u W => ∃ a n c, u = .slice a n c ∧ n ≤ 10 ∧ DigIn W a n c V
  | _ => none
theorem longL_step (m V : Nat) : ∀ i φ, longL m V i = some φ → ∀ v w w', φ v w → Below w.heap.size w w' → φ v w' := by
  intro i φ h
  unfold longL at h
  split at h
  · injection h with h
    subst h
    rintro v w w' ⟨a, n, c, rfl, hn, hd⟩ hb
    exact ⟨a, n, c, rfl, hn, hd.step hb⟩
  · injection h with h
    subst h
    rintro v w w' ⟨a, n, c, rfl, hn, hd⟩ hb
    exact ⟨a, n, c, rfl, hn, hd.step hb⟩
  · cases h
set_option maxRecDepth 100000 in
set_option maxHeartbeats 8000000 in
theorem walkDigitsLong (many ex : Nat) (low : Bool) (w : World) (hmany : many < 65536) (hex : ex < 4294967296) (hl : Laid w) :
    Calls Tryd.prog 3 #[.int .u16 (many : Int), .int .u32 (ex : Int), .bool low] w fun e w' => e = .returned (.bool true) ∧ Below w.heap.size w w' := by
  have hk := known_any w hl
  have HL := Lib.hid (fun W (hb : Below w.heap.size w W) => hl.below hb)
  have HK := Lib.hid hk
  clear hk hl
  obtain ⟨N, hN⟩ : ∃ N, 1290 + many % 14 = N := ⟨_, rfl⟩
  have hNI : (many : Int) % 14 + 1290 = (N : Int) := by omega
  have hNJ : 1290 + (many : Int) % 14 = (N : Int) := by omega
  have hN1 : 1290 ≤ N := by omega
  have hN2 : N ≤ 1303 := by omega
  obtain ⟨v, hv⟩ : ∃ v, ex % 3000000 = v := ⟨_, rfl⟩
  have hvI : (ex : Int) % 3000000 = (v : Int) := by omega
  have hv2 : v < 3000000 := by omega
  have hmk := run_make_row' (P := Tryd.prog) 25 5 (.int .u8 0) 1 Tryd.underlying25 (by kernel_rfl) rfl .i64 .i64 N (by omega) (by omega)
  rw [made_zeros'] at hmk
  clear hN hv
  go_enter Tryd.func3, Tryd.ntmps3
  go_wp2_with (refine HK.out.mono ?_; rintro e w1 ⟨rfl, hb1⟩; have HB1 := Lib.hid hb1; clear hb1)
  have hO : Own (w1.alloc (.cells (Array.replicate N (nv .u8 0)) 5)) w.heap.size (some ⟨w1.heap.size, 0, none⟩) N N (List.replicate N 0) := by
    have h := Own.lit (B := w.heap.size) (bs := List.replicate N 0) w1 HB1.out.size (Array.replicate N (nv .u8 0)) (by simp [bv, nv]) (by simp; unfold maxLen; omega)
    simpa using h
  have hB2 := HB1.out.alloc HB1.out.size (.cells (Array.replicate N (nv .u8 0)) 5)
  have HO := Lib.hid (And.intro hO hB2)
  clear hO hB2 hmk
  go_loopw [8] (fun iv wr => ∃ (i : Nat) (bs : List UInt8), iv = .int .i64 (i : Int) ∧ i ≤ N ∧ bs.length = N ∧ (∀ j, j < i → bs[j]? = some 49) ∧ Own wr w.heap.size (some ⟨w1.heap.size, 0, none⟩) N N bs ∧ Below w.heap.size w wr) (fun iv _ => N - (intOf iv).toNat)
  case atStart => exact ⟨0, _, rfl, Nat.zero_le _, by simp, fun j h => absurd h (Nat.not_lt_zero _), HO.out.1, HO.out.2⟩
  case round =>
    clear HO
    obtain ⟨i, bs, rfl, hi, hbl, hbs, ho, hb⟩ := hrel
    by_cases hlt : i < N
    · have hlt' : (i : Int) < (N : Int) := by omega
      obtain ⟨x, hx⟩ : ∃ x, bs[i]? = some x := ⟨_, List.getElem?_eq_getElem (by omega)⟩
      have hzc := ho.cell hx
      have hzf := ho.frozen i
      have HH := Lib.hid (And.intro hbs (And.intro ho hb))
      clear hbs ho hb hx
      go_wp2_with fail
      refine ⟨⟨i + 1, bs.set i 49, by simp, by omega, by simp [hbl], fun j hj => ?_, HH.out.2.1.store 49, HH.out.2.2.setCell (p := ⟨w1.heap.size, i, none⟩) HB1.out.size _⟩, by simp only [intOf]; omega⟩
      by_cases hji : j = i
      · subst hji; rw [List.getElem?_set_self (by omega)]
      · rw [List.getElem?_set_ne (by omega)]; exact HH.out.1 j (by omega)
    · obtain rfl : i = N := by omega
      have hlt' : ¬ ((i : Int) < (i : Int)) := by omega
      have hrep : bs = List.replicate i 49 := by
        refine List.ext_getElem? fun j => ?_
        rw [List.getElem?_replicate]
        by_cases hj : j < i
        · rw [if_pos hj, hbs j hj]
        · rw [if_neg hj, List.getElem?_eq_none (by omega)]
      subst hrep
      have hcv := run_string_b wr wr.heap.size (some ⟨w1.heap.size, 0, none⟩) i i _ ho.rd hbl
      have HB := Lib.hid hb
      clear hb ho hbs hbl
      obtain ⟨er, S, hS, her, hsz⟩ : ∃ (er : Int) (S : ByteArray), (⟨(List.replicate i 49).toArray⟩ : ByteArray) = S ∧ (∀ {n' : Bool} {e' : Int} {L : List Nat} {r : Int}, ParseOut S.data.toList n' e' L r → r = er) ∧ (S.size = i ∧ 1300 < i ∧ er = 5 ∨ S.size = i ∧ i ≤ 1300 ∧ er = 2) := by
        by_cases h13 : 1300 < i
        · exact ⟨5, _, rfl, fun h => ones_none i h13 (by simpa using h), .inl ⟨by simp [ByteArray.size], h13, rfl⟩⟩
        · exact ⟨2, _, rfl, fun h => ones_over i hN1 (by omega) (by simpa using h), .inr ⟨by simp [ByteArray.size], by omega, rfl⟩⟩
      rw [hS] at hcv
      have hS1 : S.size = i := by rcases hsz with h | h <;> exact h.1
      have hpS := fun W (h : Laid W) => parse_any S W (by rw [hS1]; omega) h.tz
      have hPS : ∀ W, Below w.heap.size w W → Calls Tryd.prog 6 #[.string S] W fun e w' => ∃ neg' e' a' n' c', e = .returned (.tuple #[.agg #[.bool neg', .int .i64 e', .slice a' n' c'], .int .i64 er]) ∧ Below w.heap.size w w' := fun W hb => by
        refine (hpS W (HL.out W hb)).mono ?_
        rintro e w' ⟨neg', e', a', n', c', L', er', rfl, hp, _, hb'⟩
        obtain rfl := her hp
        exact ⟨neg', e', a', n', c', rfl, Below.next0 hb hb'⟩
      clear her hS hpS hS1
      obtain ⟨D, hD⟩ : ∃ D : ByteArray, sv (dec v) = .string D := ⟨_, rfl⟩
      have hDl : D.data.toList = dec v := by
        have h1 : sv (dec v) = .string ⟨(dec v).toArray⟩ := rfl
        rw [h1] at hD; injection hD with hD; rw [← hD]
      have hDs : D.size = (dec v).length := by rw [← hDl]; rfl
      have hDm : D.size ≤ 100 := by rw [hDs]; exact Nat.le_trans (dec_len 7 v (by omega) (by decide)) (by decide)
      have hdec := fun a n c W (h : DigIn W a n c v) (hn : n ≤ 1000000) => refdec_dig a n c v W h hn
      rw [hD] at hdec
      obtain ⟨T, hT⟩ : ∃ T : ByteArray, T = (if low = true then ⟨#[51, 112, 45]⟩ else ⟨#[51, 112]⟩) := ⟨_, rfl⟩
      have hTs : T.size ≤ 3 := by rw [hT]; split <;> decide
      have hTl : (T ++ D).data.toList = expS low v := by
        rw [hT]
        cases low <;> simp [ByteArray.data_append, hDl, expS]
      have hpT := fun W (h : Laid W) => parse_any (T ++ D) W (by simp only [ByteArray.size_append]; omega) h.tz
      rw [hTl] at hpT
      have hcase : ∃ er' : Int, (v = 0 ∧ er' = 5 ∨ v ≠ 0 ∧ 6 < D.size ∧ er' = 5 ∨ v ≠ 0 ∧ D.size ≤ 6 ∧ 65536 < v ∧ er' = 2 ∨ v ≠ 0 ∧ D.size ≤ 6 ∧ v ≤ 65536 ∧ er' = 0) ∧ ∀ {n' : Bool} {e' : Int} {L : List Nat} {r : Int}, ParseOut (expS low v) n' e' L r → r = er' ∧ (er' = 0 → e' = if low = true then -(v : Int) else (v : Int)) := by
        by_cases h0 : v = 0
        · exact ⟨5, .inl ⟨h0, rfl⟩, fun h => ⟨by rcases expS_out low v h with ⟨_, h⟩ | ⟨h, _⟩ | ⟨h, _⟩; exact h; exact absurd h0 h; exact absurd h0 h, fun h => by cases h⟩⟩
        · by_cases h6 : 1000000 ≤ v
          · exact ⟨5, .inr (.inl ⟨h0, by rw [hDs]; exact dec_long h6, rfl⟩), fun h => ⟨by rcases expS_out low v h with ⟨_, h⟩ | ⟨_, h, _⟩ | ⟨_, h, _⟩; exact h; omega; omega, fun h => by cases h⟩⟩
          · have hsh := dec_short (n := v) (by omega)
            by_cases h5 : 65536 < v
            · exact ⟨2, .inr (.inr (.inl ⟨h0, by omega, h5, rfl⟩)), fun h => ⟨by rcases expS_out low v h with ⟨h, _⟩ | ⟨_, _, _, h⟩ | ⟨_, h, _⟩; omega; exact h; omega, fun h => by cases h⟩⟩
            · exact ⟨0, .inr (.inr (.inr ⟨h0, by omega, by omega, rfl⟩)), fun h => by rcases expS_out low v h with ⟨h, _⟩ | ⟨_, _, h, _⟩ | ⟨_, _, h, h'⟩; omega; omega; exact ⟨h, fun _ => h'⟩⟩
      obtain ⟨er', hcase, hout⟩ := hcase
      have hPT : ∀ W, Below w.heap.size w W → Calls Tryd.prog 6 #[.string (T ++ D)] W fun e w' => ∃ neg' e' a' n' c', e = .returned (.tuple #[.agg #[.bool neg', .int .i64 e', .slice a' n' c'], .int .i64 er']) ∧ (er' = 0 → e' = if low = true then -(v : Int) else (v : Int)) ∧ Below w.heap.size w w' := fun W hb => by
        refine (hpT W (HL.out W hb)).mono ?_
        rintro e w' ⟨neg', e', a', n', c', L', r, rfl, hp, _, hb'⟩
        obtain ⟨rfl, he⟩ := hout hp
        exact ⟨neg', e', a', n', c', rfl, he, Below.next0 hb hb'⟩
      have HP := Lib.hid (And.intro hPS (And.intro hPT hdec))
      clear hPS hPT hdec hpT hTl hD hDl hout
      rcases hsz with ⟨_, h13, rfl⟩ | ⟨_, h13, rfl⟩ <;> cases low
      all_goals
        simp only [Bool.false_eq_true, if_false, if_true] at hT HP
        subst hT
        have h13a : (1300 : Int) < (i : Int) ∨ (i : Int) ≤ 1300 := by omega
        first
          | (have h13b : (1300 : Int) < (i : Int) := by omega)
          | (have h13b : ¬ (1300 : Int) < (i : Int) := by omega
             have h13c : (i : Int) ≤ 1300 := by omega)
        clear h13a
        go_wp2_with (first
          | (go_at_call_of 6 (Value.string S); refine (HP.out.1 _ HB.out).mono ?_; rintro e w3 ⟨neg3, e3, a3, n3, c3, rfl, hb3⟩; have HB3 := Lib.hid (hb3.alloc hb3.size (.cells #[.bool neg3, .int .i64 e3, .slice a3 n3 c3] 28)); clear hb3)
          | (refine (refwhole_any v _ (by omega)).mono ?_; rintro e w4 ⟨neg4, a4, n4, c4, v4, e4, rfl, ho4, hD4, hn4, he4, he4', hb4⟩; have HB4 := Lib.hid (And.intro ho4 (And.intro hD4 (And.intro hn4 (Below.next0 HB3.out hb4)))); clear ho4 hD4 hn4 hb4)
          | (refine (refnum_any neg4 a4 n4 c4 v4 e4 w4 HB4.out.2.1 (by have := HB4.out.2.2.1; omega)).mono ?_; rintro r w5 ⟨neg5, e5, a5, n5, c5, L5, er5, rfl, hvn, hW5, hb5⟩; obtain ⟨z, rfl, hz, hzv, hL1⟩ := whole_num hv2 HB4.out.1 hvn; have HB5 := Lib.hid (And.intro hW5 (And.intro hzv (And.intro hL1 (Below.next0 HB4.out.2.2.2 hb5)))); clear hvn hW5 hzv hL1 hb5))
        have hal := (Below.refl w5.heap.size w5).alloc (Nat.le_refl _) (.cells #[.bool neg5, .int .i64 (z : Int), .slice a5 n5 c5] 28)
        have hN0 := NumBox.new w5 (.bool neg5) (.int .i64 (z : Int)) (.slice a5 n5 c5) 28
        have hl0 := box_lt w5 (.cells #[.bool neg5, .int .i64 (z : Int), .slice a5 n5 c5] 28)
        have hBW := Below.next0 HB5.out.2.2.2 hal
        have hW0 := HB5.out.1.step hal
        have hn5 : n5 ≤ 1 := by rw [← HB5.out.1.len]; exact HB5.out.2.2.1
        obtain ⟨W0, hWW⟩ : ∃ W0, w5.alloc (.cells #[.bool neg5, .int .i64 (z : Int), .slice a5 n5 c5] 28) = W0 := ⟨_, rfl⟩
        rw [hWW] at hal hN0 hl0 hBW hW0 ⊢
        have HX := Lib.hid (fun W (hb : Below W0.heap.size W0 W) => hN0.step hb hl0)
        have HY := Lib.hid (And.intro hBW (And.intro hW0 (And.intro hn5 HB5.out.2.1)))
        clear hal hN0 hl0 hBW hW0 hWW hn5
        refine wp_region_flat (by kernel_rfl) (fun W => Below W0.heap.size W0 W) (fun _ _ h h' => Below.next0 h h')
          (detV [.pointer (some ⟨w5.heap.size, 2, none⟩), .slice a5 n5 c5, undef, .pointer (some ⟨w5.heap.size, 1, none⟩), .int .i64 (z : Int), undef, .string D, .string D] (longL (val (2 ^ 64) L5) v)) (detV_grow (longL_step _ _)) (by kernel_rfl) (below_dr (Below.refl _ _)) ?_ ?_
        · skip
          refine ⟨fun A W hW hag hdep => ?_, ?_⟩
          · have e13 : A.tmps[13]?.getD undef = .pointer (some ⟨w5.heap.size, 0, none⟩) := evalD (hag.keep (t := 13) (by kernel_rfl) rfl)
            refine flat_on rfl ?_
            refine flat_run (u := .pointer (some ⟨w5.heap.size, 2, none⟩)) ?_ ((detV_at rfl).2 rfl)
            simp [go_sem, e13]
          refine ⟨fun A W hW hag hdep => ?_, ?_⟩
          · have e66 : A.tmps[66]?.getD undef = .pointer (some ⟨w5.heap.size, 2, none⟩) := evalD ((detV_at rfl).1 (hdep 0 (by decide)))
            refine flat_on rfl ?_
            obtain ⟨k0, k1, k2, _, _, _⟩ := (HX.out W hW)
            refine flat_run (u := .slice a5 n5 c5) ?_ ((detV_at rfl).2 rfl)
            simp [go_sem, e66, k2]
          refine ⟨fun A W hW hag hdep => ?_, ?_⟩
          · have e67 : A.tmps[67]?.getD undef = .slice a5 n5 c5 := evalD ((detV_at rfl).1 (hdep 1 (by decide)))
            refine flat_on rfl ?_
            refine flat_call (f := 11) (args := #[.slice a5 n5 c5]) (by simp [go_sem, e67]) ((refpart_dig a5 n5 c5 L5 W (HY.out.2.1.step hW) (by have := HY.out.2.2.1; omega)).mono ?_)
            rintro e W' ⟨a6, n6, c6, rfl, hn6, hD6, hb6⟩
            exact ⟨_, rfl, hb6, (detV_some rfl).2 ⟨a6, n6, c6, rfl, by have := HY.out.2.2.1; omega, hD6⟩⟩
          refine ⟨fun A W hW hag hdep => ?_, ?_⟩
          · have e13 : A.tmps[13]?.getD undef = .pointer (some ⟨w5.heap.size, 0, none⟩) := evalD (hag.keep (t := 13) (by kernel_rfl) rfl)
            refine flat_on rfl ?_
            refine flat_run (u := .pointer (some ⟨w5.heap.size, 1, none⟩)) ?_ ((detV_at rfl).2 rfl)
            simp [go_sem, e13]
          refine ⟨fun A W hW hag hdep => ?_, ?_⟩
          · have e69 : A.tmps[69]?.getD undef = .pointer (some ⟨w5.heap.size, 1, none⟩) := evalD ((detV_at rfl).1 (hdep 3 (by decide)))
            refine flat_on rfl ?_
            obtain ⟨k0, k1, k2, _, _, _⟩ := (HX.out W hW)
            refine flat_run (u := .int .i64 (z : Int)) ?_ ((detV_at rfl).2 rfl)
            simp [go_sem, e69, k1]
          refine ⟨fun A W hW hag hdep => ?_, ?_⟩
          · obtain ⟨a6, n6, c6, h68, hn6, hD6⟩ := (detV_some rfl).1 (hdep 2 (by decide))
            have e68 := evalD h68
            have e70 : A.tmps[70]?.getD undef = .int .i64 (z : Int) := evalD ((detV_at rfl).1 (hdep 4 (by decide)))
            refine flat_on rfl ?_
            refine flat_call (f := 10) (args := #[.slice a6 n6 c6, .int .i64 (z : Int)]) (by simp [go_sem, e68, e70]) ((refleft_any a6 n6 c6 _ z W hD6 (by omega) (by omega)).mono ?_)
            rintro e W' ⟨a7, n7, rfl, hn7, hD7, hb7⟩
            rw [HY.out.2.2.2] at hD7
            exact ⟨_, rfl, hb7, (detV_some rfl).2 ⟨a7, n7, n7, rfl, by omega, hD7⟩⟩
          refine ⟨fun A W hW hag hdep => ?_, ?_⟩
          · obtain ⟨a7, n7, c7, h71, hn7, hD7⟩ := (detV_some rfl).1 (hdep 5 (by decide))
            have e71 := evalD h71
            refine flat_on rfl ?_
            refine flat_call (f := 9) (args := #[.slice a7 n7 c7]) (by simp [go_sem, e71]) ((HP.out.2.2 a7 n7 c7 W hD7 (by omega)).mono ?_)
            rintro e W' ⟨rfl, hb7⟩
            exact ⟨_, rfl, hb7, (detV_at rfl).2 rfl⟩
          refine ⟨fun A W hW hag hdep => ?_, ?_⟩
          · have e72 : A.tmps[72]?.getD undef = .string D := evalD ((detV_at rfl).1 (hdep 6 (by decide)))
            refine flat_on rfl ?_
            refine flat_run (u := .string D) ?_ ((detV_at rfl).2 rfl)
            simp [go_sem, e72]
          exact trivial
        intro vs W1 hW1 hvs
        have v7 : vs 7 = .string D := (detV_at rfl).1 (hvs 7 (by decide))
        simp only [putAll, Act.put, List.setIfInBounds_toArray, List.set_cons_zero, List.set_cons_succ]
        rw [v7]
        have HW1 := Lib.hid (Below.next0 HY.out.1 (show Below W0.heap.size W0 W1 from hW1))
        clear hW1 hvs v7
        rcases hcase with ⟨hv0, rfl⟩ | ⟨hv0, hd6, rfl⟩ | ⟨hv0, hd6, hv5, rfl⟩ | ⟨hv0, hd6, hv5, rfl⟩
        all_goals
          first
            | (have hvI0 : (v : Int) = 0 := by omega)
            | (have hvI0 : ¬ (v : Int) = 0 := by omega
               have hvB0 : ((v : Int) == 0) = false := by rw [beq_eq_false_iff_ne]; exact hvI0
               first
                 | (have hdI : (6 : Int) < (D.size : Int) := by omega)
                 | (have hdI : ¬ (6 : Int) < (D.size : Int) := by omega
                    first
                      | (have hvI5 : (65536 : Int) < (v : Int) := by omega)
                      | (have hvI5 : ¬ (65536 : Int) < (v : Int) := by omega)))
          go_wp2_with (first
            | (go_at_call_of 6 D; refine (HP.out.2.1 _ HW1.out).mono ?_; rintro e w6 ⟨neg6, e6, a6, n6, c6, rfl, he6, hb6⟩;
               have hx := NumBox.new w6 (.bool neg6) (.int .i64 e6) (.slice a6 n6 c6) 28; have hx0 := hx.c0; have hx1 := hx.c1; have hx2 := hx.c2;
               have HB6 := Lib.hid (hb6.alloc hb6.size (.cells #[.bool neg6, .int .i64 e6, .slice a6 n6 c6] 28)); clear hb6 hx;
               first
                 | (have he7 := he6 trivial; subst he7; clear he6)
                 | (have he7 := he6 rfl; subst he7; clear he6)
                 | (clear he6)))
          go_ret
          exact ⟨rfl, HB6.out⟩
end Go.Proofs.YtmocmkfpblakbaaDoor
