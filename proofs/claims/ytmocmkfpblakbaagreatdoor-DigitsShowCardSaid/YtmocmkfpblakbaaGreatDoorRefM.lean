/- The walk of the document's Parse. Condition: Go's own limit of a text. -/
import Derived.Test.YtmocmkfpblakbaaGreatDoorRefM1
namespace Go.Proofs.YtmocmkfpblakbaaGreatDoor
open Go.RowKit WordsM DecM

/-- a number and an error are given, of which Φ holds; the words lie -/
def NumRes (w0 : World) (Φ : Bool → Int → List Nat → Int → Prop) (r : Ending) (w' : World) : Prop :=
  ∃ neg' e' a' n' c' L er, r = .returned (.tuple #[.agg #[.bool neg', .int .i64 e', .slice a' n' c'], .int .i64 er]) ∧ Φ neg' e' L er ∧ WordsIn w' a' n' c' L ∧ Below w0.heap.size w0 w'
theorem NumRes.of {w0 w' : World} {Φ : Bool → Int → List Nat → Int → Prop} {neg' : Bool} {e' : Int} {a' : Option Addr} {n' c' : Nat} {L : List Nat} {er : Int} (h1 : Φ neg' e' L er) (h2 : WordsIn w' a' n' c' L) (h3 : Below w0.heap.size w0 w') :
    NumRes w0 Φ (.returned (.tuple #[.agg #[.bool neg', .int .i64 e', .slice a' n' c'], .int .i64 er])) w' := ⟨neg', e', a', n', c', L, er, rfl, h1, h2, h3⟩
/-- what Parse gives of a text -/
def ParseOut (S : List UInt8) (neg' : Bool) (e' : Int) (L : List Nat) (er : Int) : Prop := match form S with
  | none => neg' = false ∧ e' = 0 ∧ L = [] ∧ er = 5
  | some (neg, v, e) => MakeOut neg v e neg' e' L er
theorem ParseOut.none_ {S : List UInt8} (h : form S = none) : ParseOut S false 0 [] 5 := by unfold ParseOut; rw [h]; exact ⟨rfl, rfl, rfl, rfl⟩
theorem ParseOut.some_ {S : List UInt8} {neg : Bool} {v : Nat} {e : Int} (h : form S = some (neg, v, e)) {neg' : Bool} {e' : Int} {L : List Nat} {er : Int} (hm : MakeOut neg v e neg' e' L er) : ParseOut S neg' e' L er := by unfold ParseOut; rw [h]; exact hm
/-- the sign: how many bytes it takes -/
theorem minus_at (s : ByteArray) : (∃ h : 0 < s.size, (s[0]'h) = 45 ∧ minus s.data.toList = (true, s.data.toList.drop 1)) ∨ ((∀ h : 0 < s.size, (s[0]'h) ≠ 45) ∧ minus s.data.toList = (false, s.data.toList.drop 0)) := by
  have hb := fun h => bytes_at s 0 h
  have hl : s.data.toList.length = s.size := rfl
  generalize s.data.toList = L at *
  cases L with
  | nil => exact .inr ⟨fun h => by simp at hl; omega, rfl⟩
  | cons c r =>
    have h0 : 0 < s.size := by rw [← hl]; simp
    have hc := hb h0
    simp only [List.getElem?_cons_zero, Option.some.injEq] at hc
    by_cases h : c = 45
    · exact .inl ⟨h0, by rw [← hc]; exact h, by simp [minus, h]⟩
    · exact .inr ⟨fun h' => by rw [← hc]; exact h, by simp [minus, h]⟩
theorem minus_from (s : ByteArray) (p : Nat) : (∃ h : p < s.size, (s[p]'h) = 45 ∧ minus (s.data.toList.drop p) = (true, s.data.toList.drop (p + 1))) ∨ ((∀ h : p < s.size, (s[p]'h) ≠ 45) ∧ minus (s.data.toList.drop p) = (false, s.data.toList.drop p)) := by
  have hl : s.data.toList.length = s.size := rfl
  by_cases hp : p < s.size
  · have hc := bytes_at s p hp
    have hd : s.data.toList.drop p = (s[p]'hp) :: s.data.toList.drop (p + 1) := by
      rw [List.drop_eq_getElem_cons (by rw [hl]; exact hp)]
      congr 1
    rw [hd]
    by_cases h : (s[p]'hp) = 45
    · exact .inl ⟨hp, h, by simp [minus, h]⟩
    · exact .inr ⟨fun _ => h, by simp [minus, h]⟩
  · have hd : s.data.toList.drop p = [] := List.drop_eq_nil_of_le (by rw [hl]; omega)
    rw [hd]
    exact .inr ⟨fun h => absurd h hp, rfl⟩
theorem drop_cons {s : ByteArray} {p : Nat} (hp : p < s.size) : s.data.toList.drop p = (s[p]'hp) :: s.data.toList.drop (p + 1) := by
  rw [List.drop_eq_getElem_cons (show p < s.data.toList.length from hp)]
  congr 1
/-- the exponent's part of a text, where it is one -/
theorem expo_ok {s : ByteArray} {N k : Nat} {low : Bool} (hN : N < s.size) (hc : (s[N]'hN) = 112) (hm : minus (s.data.toList.drop (N + 1)) = (low, s.data.toList.drop k)) (hd : k + digN (s.data.toList.drop k) = s.size) (h1 : 1 ≤ digN (s.data.toList.drop k)) (h6 : digN (s.data.toList.drop k) ≤ 6) (h48 : (s.data.toList.drop k).headD 0 ≠ 48) :
    expo (s.data.toList.drop N) = some (if low = true then -(dv (s.data.toList.drop k) : Int) else (dv (s.data.toList.drop k) : Int)) := by
  have hl : (s.data.toList.drop k).length = s.size - k := by rw [List.length_drop]; rfl
  rw [drop_cons hN, hc, expo, if_neg (by simp), hm]
  simp only
  rw [if_neg]
  rintro (h | h | h | h)
  · omega
  · omega
  · omega
  · exact h48 h
theorem expo_bad {s : ByteArray} {N k : Nat} {low : Bool} (hN : N < s.size) (hc : (s[N]'hN) = 112) (hm : minus (s.data.toList.drop (N + 1)) = (low, s.data.toList.drop k)) (hk : k ≤ s.size) (h : k + digN (s.data.toList.drop k) ≠ s.size ∨ digN (s.data.toList.drop k) < 1 ∨ 6 < digN (s.data.toList.drop k) ∨ (s.data.toList.drop k).headD 0 = 48) :
    expo (s.data.toList.drop N) = none := by
  have hl : (s.data.toList.drop k).length = s.size - k := by rw [List.length_drop]; rfl
  have hle := digN_le (s.data.toList.drop k)
  rw [drop_cons hN, hc, expo, if_neg (by simp), hm]
  simp only
  rw [if_pos]
  rcases h with h | h | h | h
  · exact .inr (.inr (.inl (by omega)))
  · by_cases h0 : s.size - k = 0
    · exact .inl (by omega)
    · exact .inr (.inr (.inl (by omega)))
  · exact .inr (.inl (by omega))
  · exact .inr (.inr (.inr h))
theorem digit_in {s : ByteArray} {at_ d i : Nat} (h : i < s.size) (h1 : at_ ≤ i) (h2 : i < at_ + d) (ha : allD ((s.data.toList.drop at_).take d)) : 48 ≤ (s[i]'h).toNat ∧ (s[i]'h).toNat ≤ 57 := by
  refine ha _ (List.mem_of_getElem? (i := i - at_) ?_)
  rw [List.getElem?_take, if_pos (by omega), List.getElem?_drop, show at_ + (i - at_) = i by omega]
  exact bytes_at s i h
theorem dv_next {s : ByteArray} {at_ i : Nat} (h : i < s.size) (h1 : at_ ≤ i) : dv ((s.data.toList.drop at_).take (i + 1 - at_)) = dv ((s.data.toList.drop at_).take (i - at_)) * 10 + ((s[i]'h).toNat - 48) := by
  have h2 : (s.data.toList.drop at_)[i - at_]? = some (s[i]'h) := by rw [List.getElem?_drop, show at_ + (i - at_) = i by omega]; exact bytes_at s i h
  rw [show i + 1 - at_ = (i - at_) + 1 by omega, List.take_add_one, h2, Option.toList_some, dv_snoc, Nat.mul_comm]
theorem dv_bound {l : List UInt8} {d k : Nat} (ha : allD (l.take d)) (hk : k ≤ d) : dv (l.take k) < 10 ^ k := by
  have h1 : allD (l.take k) := fun c hc => ha c (by
    have : l.take k = (l.take d).take k := by rw [List.take_take, Nat.min_eq_left hk]
    rw [this] at hc
    exact List.mem_of_mem_take hc)
  exact Nat.lt_of_lt_of_le (dv_lt _ h1) (Nat.pow_le_pow_right (by decide) (by rw [List.length_take]; omega))
set_option maxRecDepth 100000 in
set_option maxHeartbeats 8000000 in
theorem refparse_any (s : ByteArray) (w : World) (hs : s.size ≤ 281474976710656) :
    Calls Tryz.prog 23 #[.string s] w (NumRes w (ParseOut s.data.toList)) := by
  have hlen : s.data.toList.length = s.size := rfl
  have hB0 : Below w.heap.size w (w.alloc (.cells #[.bool false, .int .i64 0, .slice none 0 0] 24)) := (Below.refl _ _).alloc (Nat.le_refl _) _
  have hN0 := NumBox.new w (.bool false) (.int .i64 0) (.slice none 0 0) 24
  have hl0 := box_lt w (.cells #[.bool false, .int .i64 0, .slice none 0 0] 24)
  have HW := Lib.hid (And.intro hB0 hN0)
  obtain ⟨S, hS⟩ : ∃ S, s.data.toList = S := ⟨_, rfl⟩
  have HS := Lib.hid (And.intro hS hlen)
  clear hB0 hN0 hS hlen
  go_enter Tryz.func23, Tryz.ntmps23
  go_upto_region 2 with fail
  go_cut [19] (fun bv wx => ∃ b : Bool, bv = .bool b ∧ (b = true ∧ 1 ≤ s.size ∧ minus s.data.toList = (true, s.data.toList.drop 1) ∨ b = false ∧ minus s.data.toList = (false, s.data.toList.drop 0)) ∧ w.alloc (.cells #[.bool false, .int .i64 0, .slice none 0 0] 24) = wx)
  case first =>
    by_cases h0 : 0 < s.size
    · have h0' : (0 : Int) < (s.size : Int) := by omega
      by_cases h45 : (s[0]'h0) = 45
      · have h45' : (((s[0]'h0).toNat : Int) == 45) = true := by rw [h45]; rfl
        have HM := Lib.hid (show minus s.data.toList = (true, s.data.toList.drop 1) from by
          rcases minus_at s with ⟨_, _, h⟩ | ⟨h, _⟩
          · exact h
          · exact absurd h45 (h h0))
        clear h45
        go_wp2_with fail
        go_meet
        exact ⟨true, rfl, .inl ⟨rfl, h0, HM.out⟩, rfl⟩
      · have h45' : (((s[0]'h0).toNat : Int) == 45) = false := by rw [beq_eq_false_iff_ne]; intro e; exact h45 (UInt8.toNat_inj.1 (show (s[0]'h0).toNat = 45 by omega))
        have HM := Lib.hid (show minus s.data.toList = (false, s.data.toList.drop 0) from by
          rcases minus_at s with ⟨_, h, _⟩ | ⟨_, h⟩
          · exact absurd h h45
          · exact h)
        clear h45
        go_wp2_with fail
        go_meet
        exact ⟨false, rfl, .inr ⟨rfl, HM.out⟩, rfl⟩
    · have h0' : ¬ (0 : Int) < (s.size : Int) := by omega
      have HM := Lib.hid (show minus s.data.toList = (false, s.data.toList.drop 0) from by
        rcases minus_at s with ⟨h, _⟩ | ⟨_, h⟩
        · exact absurd h h0
        · exact h)
      go_wp2_with fail
      go_meet
      exact ⟨false, rfl, .inr ⟨rfl, HM.out⟩, rfl⟩
  case rest =>
    obtain ⟨b, rfl, hmb, rfl⟩ := hcut
    have HMB := Lib.hid hmb
    clear hmb
    go_upto_if 19 with fail
    go_cut [4, 5] (fun av nv wx => ∃ (at_ : Nat) (neg : Bool), av = .int .i64 (at_ : Int) ∧ nv = .bool neg ∧ at_ ≤ s.size ∧ minus s.data.toList = (neg, s.data.toList.drop at_) ∧ w.alloc (.cells #[.bool false, .int .i64 0, .slice none 0 0] 24) = wx)
    case first =>
      cases b
      · go_wp2_with fail
        go_meet
        refine ⟨0, false, rfl, rfl, Nat.zero_le _, ?_, rfl⟩
        rcases HMB.out with ⟨h, _⟩ | ⟨_, h⟩
        · cases h
        · exact h
      · go_wp2_with fail
        go_meet
        rcases HMB.out with ⟨_, h1, h⟩ | ⟨h, _⟩
        · exact ⟨1, true, rfl, rfl, h1, h, rfl⟩
        · cases h
    case rest =>
      clear HMB
      obtain ⟨at_, neg, rfl, rfl, hat, hmin, rfl⟩ := hcut
      have hdl := digN_le (s.data.toList.drop at_)
      rw [List.length_drop, HS.out.2] at hdl
      have hcn := count_any s at_ 1300 (w.alloc (.cells #[.bool false, .int .i64 0, .slice none 0 0] 24)) hs hat (by decide)
      have hfo : form s.data.toList = form s.data.toList := rfl
      conv at hfo => rhs; unfold form
      rw [hmin] at hfo
      simp only at hfo
      have hta := digN_take (s.data.toList.drop at_)
      unfold cnt at hcn
      obtain ⟨d, hd⟩ : ∃ d, digN (s.data.toList.drop at_) = d := ⟨_, rfl⟩
      rw [hd] at hdl hcn hfo hta
      by_cases hbad : d < 1 ∨ 1300 < d ∨ ((s.data.toList.drop at_).headD 0 = 48 ∧ 1 < d)
      · have hF : form s.data.toList = none := by
          rw [hfo, if_pos]
          rcases hbad with h | h | ⟨h1, h2⟩
          · exact .inl h
          · exact .inr (.inl h)
          · exact .inr (.inr ⟨h1, .inr (by rw [List.length_drop, HS.out.2]; omega)⟩)
        rw [if_pos hbad] at hcn
        have HC := Lib.hid hcn
        have HF := Lib.hid hF
        clear hcn hfo hta hbad hF hmin hd
        go_wp2_with (refine HC.out.mono ?_; rintro e w1 ⟨rfl, rfl⟩)
        have k0 := HW.out.2.c0
        have k1 := HW.out.2.c1
        have k2 := HW.out.2.c2
        have hb5 := HW.out.1
        generalize w.alloc _ = W5 at k0 k1 k2 hb5 ⊢
        refine ⟨rfl, .tuple #[.agg #[.bool false, .int .i64 0, .slice none 0 0], .int .i64 5], by simp [results, go_sem, k0, k1, k2], NumRes.of (ParseOut.none_ HF.out) (WordsIn.nil_ _) hb5⟩
      · rw [if_neg hbad] at hcn
        have has : at_ < s.size := by omega
        have hhd := head_at has
        rw [hhd] at hbad hfo
        obtain ⟨N, hN⟩ : ∃ N, at_ + d = N := ⟨_, rfl⟩
        rw [hN] at hcn
        have HC := Lib.hid hcn
        have HF0 := Lib.hid hfo
        have HTA := Lib.hid (And.intro hta (And.intro hmin hd))
        have HBAD := Lib.hid hbad
        have hN1 : N ≤ s.size := by omega
        have hd1 : d ≤ 1300 := by omega
        have hd2 : 1 ≤ d := by omega
        clear hcn hfo hta hbad hmin hd hhd
        by_cases hnz : neg = true ∧ (s[at_]'has) = 48
        · obtain ⟨rfl, h48⟩ := hnz
          have h48' : (((s[at_]'has).toNat : Int) == 48) = true := by rw [h48]; rfl
          have hF : form s.data.toList = none := by
            rw [HF0.out, if_pos (.inr (.inr ⟨h48, .inl rfl⟩))]
          have HF := Lib.hid hF
          clear hF h48
          go_wp2_with (refine HC.out.mono ?_; rintro e w1 ⟨rfl, rfl⟩)
          have k0 := HW.out.2.c0
          have k1 := HW.out.2.c1
          have k2 := HW.out.2.c2
          have hb5 := HW.out.1
          generalize w.alloc _ = W5 at k0 k1 k2 hb5 ⊢
          refine ⟨rfl, .tuple #[.agg #[.bool false, .int .i64 0, .slice none 0 0], .int .i64 5], by simp [results, go_sem, k0, k1, k2], NumRes.of (ParseOut.none_ HF.out) (WordsIn.nil_ _) hb5⟩
        · have HNZ := Lib.hid hnz
          clear hnz
          go_upto_region 4 with fail
          go_cut [6] (fun v wx => v = .int .i64 (N : Int) ∧ w.alloc (.cells #[.bool false, .int .i64 0, .slice none 0 0] 24) = wx)
          case first =>
            go_wp2_with (refine HC.out.mono ?_; rintro e w1 ⟨rfl, rfl⟩)
            go_meet
            exact ⟨rfl, rfl⟩
          obtain ⟨rfl, rfl⟩ := hcut
          go_upto_region 5 with fail
          go_cut [33] (fun v wx => v = .bool false ∧ w.alloc (.cells #[.bool false, .int .i64 0, .slice none 0 0] 24) = wx)
          case first =>
            cases neg
            · go_wp2_with fail
              go_meet
              exact ⟨rfl, rfl⟩
            · have h48' : (((s[at_]'has).toNat : Int) == 48) = false := by rw [beq_eq_false_iff_ne]; intro e; exact HNZ.out ⟨rfl, UInt8.toNat_inj.1 (show (s[at_]'has).toNat = 48 by omega)⟩
              go_wp2_with fail
              go_meet
              exact ⟨rfl, rfl⟩
          case rest =>
            obtain ⟨rfl, rfl⟩ := hcut
            clear HC
            go_wp2_with fail
            go_loopw [7, 8] (fun mv iv wr => ∃ (i : Nat) (a : Option Addr) (n c : Nat), mv = .slice a n c ∧ iv = .int .i64 (i : Int) ∧ at_ ≤ i ∧ i ≤ N ∧ DigIn wr a n c (dv ((s.data.toList.drop at_).take (i - at_))) ∧ Below (w.alloc (.cells #[.bool false, .int .i64 0, .slice none 0 0] 24)).heap.size (w.alloc (.cells #[.bool false, .int .i64 0, .slice none 0 0] 24)) wr) (fun _ iv _ => N - (intOf iv).toNat)
            case atStart => exact ⟨at_, none, 0, 0, rfl, rfl, Nat.le_refl _, by omega, by rw [Nat.sub_self]; exact DigIn.nil_ _, Below.refl _ _⟩
            case round =>
              obtain ⟨i, am, nm, cm, rfl, rfl, hi1, hi2, hD, hb⟩ := hrel
              by_cases hlt : i < N
              · have hlt' : (i : Int) < (N : Int) := by omega
                have his : i < s.size := by omega
                have hisI : (i : Int) < (s.size : Int) := by omega
                have hdig := digit_in (s := s) (at_ := at_) (d := d) (i := i) his hi1 (by omega) HTA.out.1
                have hnx := dv_next (s := s) (at_ := at_) (i := i) his hi1
                have hvb := dv_bound (l := s.data.toList.drop at_) (d := d) (k := i - at_) HTA.out.1 (by omega)
                generalize dv ((s.data.toList.drop at_).take (i - at_)) = v at *
                obtain ⟨q, hq⟩ : ∃ q, (s[i]'his).toNat - 48 = q := ⟨_, rfl⟩
                rw [hq] at hnx
                have hq9 : q ≤ 9 := by omega
                have hcq : ((s[i]'his).toNat : Int) - 48 = (q : Int) := by omega
                have hnm : nm ≤ 1300 := by rw [← hD.len]; exact Nat.le_trans (dig_dec_len hvb) (by omega)
                have hn10 : (dig (2 ^ 32) (v * 10)).length ≤ 1301 := Nat.le_trans (dig_dec_len (k := i - at_ + 1) (by rw [Nat.pow_succ]; omega)) (by omega)
                have HD := Lib.hid (And.intro hD (And.intro hb (And.intro hnx hn10)))
                clear hD hb hnx hn10 hvb hq hdig
                have hw1 : IntKind.u8.wrap (q : Int) = (q : Int) := by rw [IntKind.wrap_u8]; omega
                have hw2 : IntKind.u32.wrap (q : Int) = (q : Int) := by rw [IntKind.wrap_u32]; omega
                go_upto_region 11 with fail
                refine wp_region_flatU (by kernel_rfl) (fun W => Below wr.heap.size wr W) (fun _ _ h h' => Below.next0 h h') (detV [.slice am nm cm, undef, undef, .string s, .int .i64 (i : Int), .int .u8 ((s[i]'his).toNat : Int), .int .u8 (q : Int), .int .u32 (q : Int)] (turnL v q)) (detV_grow (turnL_step v q)) (by kernel_rfl) (below_dr (Below.refl _ _)) ?_ ?_
                · refine ⟨fun a W und hW hag hdep hu hup hun => ?_, ?_⟩
                  · have u2 := hup 2 _ rfl ⟨0, by decide, hu⟩
                    have u10 := hup 10 _ rfl ⟨2, by decide, u2⟩
                    have u11 := hup 11 _ rfl ⟨10, by decide, u10⟩
                    have e7 : a.tmps[7]?.getD undef = .slice am nm cm := by rw [hun 11 _ 7 rfl u11 rfl]; rfl
                    refine flat_on rfl ?_
                    refine flat_run (u := .slice am nm cm) ?_ ((detV_at rfl).2 rfl)
                    simp [go_sem, e7]
                  refine ⟨fun a W und hW hag hdep hu hup hun => ?_, ?_⟩
                  · refine flat_on rfl ?_
                    refine flat_madeU (w' := W.alloc (.cells #[.int .u32 10] 72)) (u := .slice (some ⟨W.heap.size, 0, none⟩) 1 1) (by simp [go_sem]) ((Below.refl _ _).alloc (Nat.le_refl _) _) ((detV_some rfl).2 ⟨_, _, _, rfl, ten_row W _⟩)
                  refine ⟨fun a W und hW hag hdep hu hup hun => ?_, ?_⟩
                  · have e41 : a.tmps[41]?.getD undef = .slice am nm cm := evalD ((detV_at rfl).1 (hdep 0 (by decide)))
                    obtain ⟨a1, n1, c1, e0, hd1⟩ := (detV_some rfl).1 (hdep 1 (by decide))
                    have e42 : a.tmps[42]?.getD undef = .slice a1 n1 c1 := evalD e0
                    have hn1 : n1 = 1 := by rw [← hd1.len, dig_step (by decide) (by decide)]; rfl
                    refine flat_on rfl ?_
                    refine flat_call (f := 41) (args := #[.slice am nm cm, .slice a1 n1 c1]) (by simp [go_sem, e41, e42]) ((refmul_any am nm cm v a1 n1 c1 10 W ⟨HD.out.1.len, HD.out.1.cap, HD.out.1.most, (HD.out.1.rd.below hW).more hW.size⟩ hd1 (by omega) (by omega)).mono ?_)
                    rintro e W' ⟨a2, n2, rfl, hD2, hb2⟩
                    exact ⟨_, rfl, hb2, (detV_some rfl).2 ⟨_, _, _, rfl, hD2⟩⟩
                  refine ⟨fun a W und hW hag hdep hu hup hun => ?_, ?_⟩
                  · have e0 : a.tmps[0]?.getD undef = .string s := evalD (hag.keep (t := 0) (by kernel_rfl) rfl)
                    refine flat_on rfl ?_
                    refine flat_run (u := .string s) ?_ ((detV_at rfl).2 rfl)
                    simp [go_sem, e0]
                  refine ⟨fun a W und hW hag hdep hu hup hun => ?_, ?_⟩
                  · have e8 : a.tmps[8]?.getD undef = .int .i64 (i : Int) := evalD (hag.keep (t := 8) (by kernel_rfl) rfl)
                    refine flat_on rfl ?_
                    refine flat_run (u := .int .i64 (i : Int)) ?_ ((detV_at rfl).2 rfl)
                    simp [go_sem, e8]
                  refine ⟨fun a W und hW hag hdep hu hup hun => ?_, ?_⟩
                  · have e44 : a.tmps[44]?.getD undef = .string s := evalD ((detV_at rfl).1 (hdep 3 (by decide)))
                    have e45 : a.tmps[45]?.getD undef = .int .i64 (i : Int) := evalD ((detV_at rfl).1 (hdep 4 (by decide)))
                    refine flat_on rfl ?_
                    refine flat_run (u := .int .u8 ((s[i]'his).toNat : Int)) ?_ ((detV_at rfl).2 rfl)
                    simp [go_sem, e44, e45, his]
                  refine ⟨fun a W und hW hag hdep hu hup hun => ?_, ?_⟩
                  · have e46 : a.tmps[46]?.getD undef = .int .u8 ((s[i]'his).toNat : Int) := evalD ((detV_at rfl).1 (hdep 5 (by decide)))
                    refine flat_on rfl ?_
                    refine flat_run (u := .int .u8 (q : Int)) ?_ ((detV_at rfl).2 rfl)
                    simp [go_sem, e46, hcq, hw1]
                  refine ⟨fun a W und hW hag hdep hu hup hun => ?_, ?_⟩
                  · have e47 : a.tmps[47]?.getD undef = .int .u8 (q : Int) := evalD ((detV_at rfl).1 (hdep 6 (by decide)))
                    refine flat_on rfl ?_
                    refine flat_run (u := .int .u32 (q : Int)) ?_ ((detV_at rfl).2 rfl)
                    simp [go_sem, e47, hw2]
                  refine ⟨fun a W und hW hag hdep hu hup hun => ?_, ?_⟩
                  · have e48 : a.tmps[48]?.getD undef = .int .u32 (q : Int) := evalD ((detV_at rfl).1 (hdep 7 (by decide)))
                    refine flat_on rfl ?_
                    refine flat_madeU (w' := W.alloc (.cells #[.int .u32 (q : Int)] 72)) (u := .slice (some ⟨W.heap.size, 0, none⟩) 1 1) (by simp [go_sem, e48]) ((Below.refl _ _).alloc (Nat.le_refl _) _) ((detV_some rfl).2 ⟨_, rfl, dig_row W q _⟩)
                  refine ⟨fun a W und hW hag hdep hu hup hun => ?_, ?_⟩
                  · obtain ⟨g1, e0, hr1⟩ := (detV_some rfl).1 (hdep 8 (by decide))
                    have e49 : a.tmps[49]?.getD undef = .slice (some ⟨g1, 0, none⟩) 1 1 := evalD e0
                    refine flat_on rfl ?_
                    refine flat_call (f := 38) (args := #[.slice (some ⟨g1, 0, none⟩) 1 1]) (by simp [go_sem, e49]) ((reftrim_one _ q W hq9 hr1).mono ?_)
                    rintro e W' ⟨n2, rfl, _, hD2, rfl⟩
                    exact ⟨_, rfl, Below.refl _ _, (detV_some rfl).2 ⟨_, _, _, rfl, hD2⟩⟩
                  refine ⟨fun a W und hW hag hdep hu hup hun => ?_, ?_⟩
                  · obtain ⟨a1, n1, c1, e0, hd1⟩ := (detV_some rfl).1 (hdep 2 (by decide))
                    have e43 : a.tmps[43]?.getD undef = .slice a1 n1 c1 := evalD e0
                    obtain ⟨a2, n2, c2, e1, hd2⟩ := (detV_some rfl).1 (hdep 9 (by decide))
                    have e50 : a.tmps[50]?.getD undef = .slice a2 n2 c2 := evalD e1
                    have hn1 : n1 ≤ 1301 := by rw [← hd1.len]; exact HD.out.2.2.2
                    have hn2 : n2 ≤ 1 := by rw [← hd2.len]; exact dig_dec_len (k := 1) (by omega)
                    refine flat_on rfl ?_
                    refine flat_call (f := 40) (args := #[.slice a1 n1 c1, .slice a2 n2 c2]) (by simp [go_sem, e43, e50]) ((refadd_any a1 n1 c1 (v * 10) a2 n2 c2 q W hd1 hd2 (by omega) (by omega)).mono ?_)
                    rintro e W' ⟨a3, n3, rfl, hD3, hb3⟩
                    exact ⟨_, rfl, hb3, (detV_some rfl).2 ⟨_, _, _, rfl, hD3⟩⟩
                  refine ⟨fun a W und hW hag hdep hu hup hun => ?_, ?_⟩
                  · obtain ⟨a1, n1, c1, e0, hd1⟩ := (detV_some rfl).1 (hdep 10 (by decide))
                    have e51 : a.tmps[51]?.getD undef = .slice a1 n1 c1 := evalD e0
                    refine flat_on rfl ?_
                    refine flat_run (u := .slice a1 n1 c1) ?_ ((detV_some rfl).2 ⟨_, _, _, rfl, hd1⟩)
                    simp [go_sem, e51]
                  exact trivial
                · intro vs W1 hW1 hvs
                  obtain ⟨a5, n5, c5, v11, hD5⟩ := (detV_some rfl).1 (hvs 11 (by decide))
                  simp only [putAll, Act.put, List.setIfInBounds_toArray, List.set_cons_zero, List.set_cons_succ]
                  rw [v11]
                  have HW1 := Lib.hid (And.intro hW1 hD5)
                  clear hW1 hvs v11 hD5
                  go_wp2_with fail
                  refine ⟨⟨i + 1, a5, n5, c5, rfl, by simp, by omega, by omega, by rw [HD.out.2.2.1]; exact HW1.out.2, Below.next0 HD.out.2.1 HW1.out.1⟩, by simp only [intOf]; omega⟩
              · skip
                obtain rfl : i = N := by omega
                have hlt' : ¬ ((i : Int) < (i : Int)) := by omega
                rw [show i - at_ = d by omega] at hD
                have hvb : dv ((s.data.toList.drop at_).take d) < 10 ^ d := dv_bound HTA.out.1 (Nat.le_refl _)
                have hnm : nm ≤ 1300 := by rw [← hD.len]; exact Nat.le_trans (dig_dec_len hvb) hd1
                have hform1 : ((s[at_]'has) ≠ 48 ∨ i = s.size) → form s.data.toList = match expo (s.data.toList.drop i) with | none => none | some e => some (neg, dv ((s.data.toList.drop at_).take d), e) := fun h => by
                  have hng : ¬ (d < 1 ∨ 1300 < d ∨ (s[at_]'has) = 48 ∧ (neg = true ∨ 1 < (s.data.toList.drop at_).length)) := by
                    rintro (h1 | h1 | ⟨h48, h1 | h1⟩)
                    · exact HBAD.out (.inl h1)
                    · exact HBAD.out (.inr (.inl h1))
                    · exact HNZ.out ⟨h1, h48⟩
                    · rcases h with h | h
                      · exact h h48
                      · rw [List.length_drop, HS.out.2] at h1
                        exact HBAD.out (.inr (.inr ⟨h48, by omega⟩))
                  rw [HF0.out, if_neg hng, List.drop_drop, hN]
                  first | done | rfl
                have hform2 : (s[at_]'has) = 48 → i < s.size → form s.data.toList = none := fun h48 h => by
                  rw [HF0.out, if_pos (.inr (.inr ⟨h48, .inr (by rw [List.length_drop, HS.out.2]; omega)⟩))]
                have hNB := HW.out.2.step hb hl0
                have hnl : w.heap.size < wr.heap.size := Nat.lt_of_lt_of_le hl0 hb.size
                have hbw : Below w.heap.size w wr := Below.next0 HW.out.1 hb
                obtain ⟨v, hv⟩ : ∃ v, dv ((s.data.toList.drop at_).take d) = v := ⟨_, rfl⟩
                rw [hv] at hD hform1
                have HN := Lib.hid (And.intro hNB (And.intro hnl hbw))
                have HER := Lib.hid (And.intro (hNB.store (.bool false) (.int .i64 0) (.slice none 0 0)) (NumBox.below hbw (Nat.le_refl _) (.bool false) (.int .i64 0) (.slice none 0 0)))
                have hc0 := hNB.c0
                have hc1 := hNB.c1
                have hc2 := hNB.c2
                have hf0 := hNB.f0
                have hf1 := hNB.f1
                have hf2 := hNB.f2
                have hd1' := hNB.d1 (.bool false)
                have hd2' := hNB.d2 (.bool false) (.int .i64 0)
                have HD := Lib.hid (And.intro hD hb)
                have HFO := Lib.hid (And.intro hform1 hform2)
                clear hD hb hv hvb hform1 hform2 hNB hnl hbw HF0 HTA hi1 hi2 hlt HBAD HNZ
                by_cases hsz : i = s.size
                · have hF : form s.data.toList = some (neg, v, 0) := by
                    rw [HFO.out.1 (.inr hsz), List.drop_eq_nil_of_le (by rw [HS.out.2]; omega)]; rfl
                  have HF := Lib.hid hF
                  have hszI : ((i : Int) == (s.size : Int)) = true := by rw [hsz]; simp
                  clear hF hc0 hc1 hc2 hf0 hf1 hf2 hd1' hd2' HER
                  go_wp2_with (first
                    | (go_at_call_of 42 neg; refine (refodd_any neg am nm cm v 0 _ HD.out.1 (by omega) (by omega) (by omega)).mono ?_; rintro r w3 ⟨neg1, a1, n1, c1, v1, e1, rfl, ho, hD1, hn1, he1, he3, hb3⟩; have HB3 := Lib.hid (And.intro ho (And.intro hD1 hb3)); clear ho hD1 hb3)
                    | (refine (refnum_any neg1 a1 n1 c1 v1 e1 _ HB3.out.2.1 (by omega)).mono ?_; rintro r w4 ⟨neg2, e2, a2, n2, c2, L, er, rfl, hvn, hW4, hb4⟩;
                       have hB4 := Below.next0 HB3.out.2.2 hb4;
                       have hNN := HN.out.1.step hB4 HN.out.2.1;
                       have hc0 := hNN.c0; have hc1 := hNN.c1; have hc2 := hNN.c2; have hf0 := hNN.f0; have hf1 := hNN.f1; have hf2 := hNN.f2; have hd1' := hNN.d1 (.bool neg2); have hd2' := hNN.d2 (.bool neg2) (.int .i64 e2);
                       have HB4 := Lib.hid (And.intro hNN (And.intro (Below.next0 HN.out.2.2 hB4) (And.intro hW4 hvn))); clear hNN hb4 hB4 hW4 hvn))
                  have hS5 := HB4.out.1.store (.bool neg2) (.int .i64 e2) (.slice a2 n2 c2)
                  have k0 := hS5.c0
                  have k1 := hS5.c1
                  have k2 := hS5.c2
                  have hb5 := NumBox.below HB4.out.2.1 (Nat.le_refl _) (.bool neg2) (.int .i64 e2) (.slice a2 n2 c2)
                  have hWw := HB4.out.2.2.1
                  have hW5 : WordsIn _ a2 n2 c2 L := ⟨hWw.len, hWw.cap, hWw.most, hWw.low, (hWw.rd.store3 HB4.out.1 (fun _ => by simp [nv]) (fun _ => by simp [nv]) (fun _ => by simp [nv]) (.bool neg2) (.int .i64 e2) (.slice a2 n2 c2)).more (box_size _ _ _ _ _)⟩
                  clear hS5 hc0 hc1 hc2 hf0 hf1 hf2 hd1' hd2' hWw
                  generalize World.setCell _ _ _ = W5 at k0 k1 k2 hb5 hW5 ⊢
                  refine ⟨rfl, .tuple #[.agg #[.bool neg2, .int .i64 e2, .slice a2 n2 c2], .int .i64 er], by simp [results, go_sem, k0, k1, k2], NumRes.of (ParseOut.some_ HF.out (make_out HB3.out.1 HB4.out.2.2.2)) hW5 hb5⟩
                · have hszI : ((i : Int) == (s.size : Int)) = false := by rw [beq_eq_false_iff_ne]; omega
                  have hlt2 : i < s.size := by omega
                  have hlt2I : (i : Int) < (s.size : Int) := by omega
                  by_cases hp : (s[i]'hlt2) = 112
                  · have hpI : (((s[i]'hlt2).toNat : Int) != 112) = false := by rw [hp]; rfl
                    by_cases h48 : (s[at_]'has) = 48
                    · have h48' : (((s[at_]'has).toNat : Int) == 48) = true := by rw [h48]; rfl
                      have HF := Lib.hid (HFO.out.2 h48 hlt2)
                      clear h48 hp
                      go_wp2_with fail
                      have k0 := HER.out.1.c0
                      have k1 := HER.out.1.c1
                      have k2 := HER.out.1.c2
                      have hb5 := HER.out.2
                      clear hc0 hc1 hc2 hf0 hf1 hf2 hd1' hd2'
                      generalize World.setCell _ _ _ = W5 at k0 k1 k2 hb5 ⊢
                      refine ⟨rfl, .tuple #[.agg #[.bool false, .int .i64 0, .slice none 0 0], .int .i64 5], by simp [results, go_sem, k0, k1, k2], NumRes.of (ParseOut.none_ HF.out) (WordsIn.nil_ _) hb5⟩
                    · have h48' : (((s[at_]'has).toNat : Int) == 48) = false := by rw [beq_eq_false_iff_ne]; intro e; exact h48 (UInt8.toNat_inj.1 (show (s[at_]'has).toNat = 48 by omega))
                      have HF1 := Lib.hid (And.intro (HFO.out.1 (.inl h48)) hp)
                      clear h48 hp HFO
                      go_upto_region 17 with fail
                      go_cut [84] (fun bv wx => ∃ b : Bool, bv = .bool b ∧ (b = true ∧ i + 2 ≤ s.size ∧ minus (s.data.toList.drop (i + 1)) = (true, s.data.toList.drop (i + 2)) ∨ b = false ∧ minus (s.data.toList.drop (i + 1)) = (false, s.data.toList.drop (i + 1))) ∧ wr = wx)
                      case first =>
                        by_cases h0 : i + 1 < s.size
                        · have h0' : (i : Int) + 1 < (s.size : Int) := by omega
                          by_cases h45 : (s[i + 1]'h0) = 45
                          · have h45' : (((s[i + 1]'h0).toNat : Int) == 45) = true := by rw [h45]; rfl
                            have HM := Lib.hid (show minus (s.data.toList.drop (i + 1)) = (true, s.data.toList.drop (i + 2)) from by
                              rcases minus_from s (i + 1) with ⟨_, _, h⟩ | ⟨h, _⟩
                              · exact h
                              · exact absurd h45 (h h0))
                            clear h45
                            go_wp2_with fail
                            go_meet
                            exact ⟨true, rfl, .inl ⟨rfl, h0, HM.out⟩, rfl⟩
                          · have h45' : (((s[i + 1]'h0).toNat : Int) == 45) = false := by rw [beq_eq_false_iff_ne]; intro e; exact h45 (UInt8.toNat_inj.1 (show (s[i + 1]'h0).toNat = 45 by omega))
                            have HM := Lib.hid (show minus (s.data.toList.drop (i + 1)) = (false, s.data.toList.drop (i + 1)) from by
                              rcases minus_from s (i + 1) with ⟨_, h, _⟩ | ⟨_, h⟩
                              · exact absurd h h45
                              · exact h)
                            clear h45
                            go_wp2_with fail
                            go_meet
                            exact ⟨false, rfl, .inr ⟨rfl, HM.out⟩, rfl⟩
                        · have h0' : ¬ (i : Int) + 1 < (s.size : Int) := by omega
                          have HM := Lib.hid (show minus (s.data.toList.drop (i + 1)) = (false, s.data.toList.drop (i + 1)) from by
                            rcases minus_from s (i + 1) with ⟨h, _⟩ | ⟨_, h⟩
                            · exact absurd h h0
                            · exact h)
                          go_wp2_with fail
                          go_meet
                          exact ⟨false, rfl, .inr ⟨rfl, HM.out⟩, rfl⟩
                      obtain ⟨b2, rfl, hmb2, rfl⟩ := hcut
                      have HMB2 := Lib.hid hmb2
                      clear hmb2
                      go_upto_if 84 with fail
                      go_cut [9, 10] (fun kv lv wx => ∃ (k : Nat) (low : Bool), kv = .int .i64 (k : Int) ∧ lv = .bool low ∧ k ≤ s.size ∧ minus (s.data.toList.drop (i + 1)) = (low, s.data.toList.drop k) ∧ wr = wx)
                      case first =>
                        cases b2
                        · go_wp2_with fail
                          go_meet
                          refine ⟨i + 1, false, by simp, rfl, hlt2, ?_, rfl⟩
                          rcases HMB2.out with ⟨h, _⟩ | ⟨_, h⟩
                          · cases h
                          · exact h
                        · go_wp2_with fail
                          go_meet
                          rcases HMB2.out with ⟨_, h1, h⟩ | ⟨h, _⟩
                          · exact ⟨i + 2, true, by simp only [Value.int.injEq, true_and]; omega, rfl, h1, h, rfl⟩
                          · cases h
                      obtain ⟨k, low, rfl, rfl, hk, hmk, rfl⟩ := hcut
                      clear HMB2
                      have hcn := count_any s k 6 wr hs hk (by decide)
                      unfold cnt at hcn
                      have hdk := digN_le (s.data.toList.drop k)
                      rw [List.length_drop, HS.out.2] at hdk
                      have hta2 := digN_take (s.data.toList.drop k)
                      have HMK := Lib.hid hmk
                      clear hmk
                      have hEX := HF1.out.1
                      by_cases hbad : digN (s.data.toList.drop k) < 1 ∨ 6 < digN (s.data.toList.drop k) ∨ ((s.data.toList.drop k).headD 0 = 48 ∧ 1 < digN (s.data.toList.drop k))
                      · have hF : form s.data.toList = none := by
                          rw [hEX, expo_bad hlt2 HF1.out.2 HMK.out hk (by rcases hbad with h | h | h; exact .inr (.inl h); exact .inr (.inr (.inl h)); exact .inr (.inr (.inr h.1)))]
                        rw [if_pos hbad] at hcn
                        have HC := Lib.hid hcn
                        have HF := Lib.hid hF
                        have hne : ((-1 : Int) != (s.size : Int)) = true := by rw [bne_iff_ne]; omega
                        clear hcn hF hbad hEX hta2 HF1
                        go_wp2_with (refine HC.out.mono ?_; rintro r w1 ⟨rfl, rfl⟩)
                        have k0 := HER.out.1.c0
                        have k1 := HER.out.1.c1
                        have k2 := HER.out.1.c2
                        have hb5 := HER.out.2
                        clear hc0 hc1 hc2 hf0 hf1 hf2 hd1' hd2'
                        generalize World.setCell _ _ _ = W5 at k0 k1 k2 hb5 ⊢
                        refine ⟨rfl, .tuple #[.agg #[.bool false, .int .i64 0, .slice none 0 0], .int .i64 5], by simp [results, go_sem, k0, k1, k2], NumRes.of (ParseOut.none_ HF.out) (WordsIn.nil_ _) hb5⟩
                      · rw [if_neg hbad] at hcn
                        obtain ⟨d2, hd⟩ : ∃ d2, digN (s.data.toList.drop k) = d2 := ⟨_, rfl⟩
                        rw [hd] at hcn hdk hta2 hbad
                        obtain ⟨T, hT⟩ : ∃ T, k + d2 = T := ⟨_, rfl⟩
                        rw [hT] at hcn
                        have HC := Lib.hid hcn
                        by_cases hfull : k + d2 = s.size
                        · have hks : k < s.size := by omega
                          have hksI : (k : Int) < (s.size : Int) := by omega
                          have hfullI : ((T : Int) != (s.size : Int)) = false := by rw [← hT, hfull]; simp
                          have hhd := head_at hks
                          by_cases h48k : (s[k]'hks) = 48
                          · have h48k' : (((s[k]'hks).toNat : Int) == 48) = true := by rw [h48k]; rfl
                            have hF : form s.data.toList = none := by
                              rw [hEX, expo_bad hlt2 HF1.out.2 HMK.out hk (.inr (.inr (.inr (by rw [hhd]; exact h48k))))]
                            have HF := Lib.hid hF
                            clear hcn hF hbad hEX hta2 HF1 h48k hhd hfull hT
                            go_wp2_with (refine HC.out.mono ?_; rintro r w1 ⟨rfl, rfl⟩)
                            have k0 := HER.out.1.c0
                            have k1 := HER.out.1.c1
                            have k2 := HER.out.1.c2
                            have hb5 := HER.out.2
                            clear hc0 hc1 hc2 hf0 hf1 hf2 hd1' hd2'
                            generalize World.setCell _ _ _ = W5 at k0 k1 k2 hb5 ⊢
                            refine ⟨rfl, .tuple #[.agg #[.bool false, .int .i64 0, .slice none 0 0], .int .i64 5], by simp [results, go_sem, k0, k1, k2], NumRes.of (ParseOut.none_ HF.out) (WordsIn.nil_ _) hb5⟩
                          · have h48k' : (((s[k]'hks).toNat : Int) == 48) = false := by rw [beq_eq_false_iff_ne]; intro e; exact h48k (UInt8.toNat_inj.1 (show (s[k]'hks).toNat = 48 by omega))
                            have hok := expo_ok hlt2 HF1.out.2 HMK.out (by rw [hd]; exact hfull) (by rw [hd]; omega) (by rw [hd]; omega) (by rw [hhd]; exact h48k)
                            rw [hok] at hEX
                            have hd6 : d2 ≤ 6 := by omega
                            have HEX := Lib.hid hEX
                            have hta3 : allD ((s.data.toList.drop k).take d2) := hta2
                            have HT2 := Lib.hid hta3
                            have hfd : (s.data.toList.drop k).take d2 = s.data.toList.drop k := List.take_of_length_le (by rw [List.length_drop, HS.out.2]; omega)
                            have HFD := Lib.hid (And.intro hfd hfull)
                            clear hT
                            clear hcn hbad hEX hta2 hta3 HF1 h48k hhd hok hfd
                            go_wp2_with (refine HC.out.mono ?_; rintro r w1 ⟨rfl, rfl⟩)
                            clear hc0 hc1 hc2 hf0 hf1 hf2 hd1' hd2' HER HC hfullI
                            go_loopw [9, 11] (fun kv ev wz => ∃ (j E : Nat), kv = .int .i64 (j : Int) ∧ ev = .int .i64 (E : Int) ∧ k ≤ j ∧ j ≤ s.size ∧ dv ((s.data.toList.drop k).take (j - k)) = E ∧ wr = wz) (fun kv _ _ => s.size - (intOf kv).toNat)
                            case atStart => exact ⟨k, 0, rfl, rfl, Nat.le_refl _, hk, by rw [Nat.sub_self]; rfl, rfl⟩
                            case round =>
                              obtain ⟨j, E, rfl, rfl, hj1, hj2, hE, rfl⟩ := hrel
                              have hEb : E < 10 ^ (j - k) := by
                                rw [← hE]; exact dv_bound HT2.out (by have := HFD.out.2; omega)
                              have hE6I : (E : Int) < 1000000 := by
                                have h6 : 10 ^ (j - k) ≤ 10 ^ 6 := Nat.pow_le_pow_right (by decide) (by have := HFD.out.2; omega)
                                have h7 : (10 : Nat) ^ 6 = 1000000 := rfl
                                rw [h7] at h6
                                have h8 := Nat.lt_of_lt_of_le hEb h6
                                omega
                              by_cases hlj : j < s.size
                              · have hljI : (j : Int) < (s.size : Int) := by omega
                                have hdg := digit_in (s := s) (at_ := k) (d := d2) (i := j) hlj hj1 (by have := HFD.out.2; omega) HT2.out
                                have hnx := dv_next (s := s) (at_ := k) (i := j) hlj hj1
                                rw [hE] at hnx
                                obtain ⟨q, hq⟩ : ∃ q, (s[j]'hlj).toNat - 48 = q := ⟨_, rfl⟩
                                rw [hq] at hnx
                                have hq9 : q ≤ 9 := by omega
                                have hcq : ((s[j]'hlj).toNat : Int) - 48 = (q : Int) := by omega
                                obtain ⟨E2, hE2⟩ : ∃ E2, E * 10 + q = E2 := ⟨_, rfl⟩
                                rw [hE2] at hnx
                                have hEI : 10 * (E : Int) + (q : Int) = (E2 : Int) := by omega
                                have hE2I : (E2 : Int) ≤ 10000000 := by omega
                                have hq9I : (q : Int) ≤ 9 := by omega
                                have hw1 : IntKind.u8.wrap (q : Int) = (q : Int) := by rw [IntKind.wrap_u8]; omega
                                have HX := Lib.hid hnx
                                clear hnx hE2 hq hE hEb hdg
                                go_wp2_with fail
                                exact ⟨⟨j + 1, E2, by simp, rfl, by omega, by omega, HX.out, trivial⟩, by simp only [intOf]; omega⟩
                              · obtain rfl : s.size = j := by omega
                                have hljI : ¬ ((s.size : Int) < (s.size : Int)) := by omega
                                have hEk : E = dv (s.data.toList.drop k) := by
                                  rw [← hE, show s.size - k = d2 by have := HFD.out.2; omega, HFD.out.1]
                                have hEX := HEX.out
                                rw [← hEk] at hEX
                                clear HEX hE hEb hEk
                                cases low
                                · have HEX := Lib.hid (show form s.data.toList = some (neg, v, (E : Int)) from hEX)
                                  clear hEX
                                  go_wp2_with (first
                                    | (go_at_call_of 42 neg; refine (refodd_any neg am nm cm v (E : Int) _ HD.out.1 (by omega) (by omega) (by omega)).mono ?_; rintro r w3 ⟨neg1, a1, n1, c1, v1, e1, rfl, ho, hD1, hn1, he1, he3, hb3⟩; have HB3 := Lib.hid (And.intro ho (And.intro hD1 hb3)); clear ho hD1 hb3)
                                    | (refine (refnum_any neg1 a1 n1 c1 v1 e1 _ HB3.out.2.1 (by omega)).mono ?_; rintro r w4 ⟨neg2, e2, a2, n2, c2, L, er, rfl, hvn, hW4, hb4⟩;
                                       have hB4 := Below.next0 HB3.out.2.2 hb4;
                                       have hNN := HN.out.1.step hB4 HN.out.2.1;
                                       have hc0 := hNN.c0; have hc1 := hNN.c1; have hc2 := hNN.c2; have hf0 := hNN.f0; have hf1 := hNN.f1; have hf2 := hNN.f2; have hd1' := hNN.d1 (.bool neg2); have hd2' := hNN.d2 (.bool neg2) (.int .i64 e2);
                                       have HB4 := Lib.hid (And.intro hNN (And.intro (Below.next0 HN.out.2.2 hB4) (And.intro hW4 hvn))); clear hNN hb4 hB4 hW4 hvn))
                                  have hS5 := HB4.out.1.store (.bool neg2) (.int .i64 e2) (.slice a2 n2 c2)
                                  have k0 := hS5.c0
                                  have k1 := hS5.c1
                                  have k2 := hS5.c2
                                  have hb5 := NumBox.below HB4.out.2.1 (Nat.le_refl _) (.bool neg2) (.int .i64 e2) (.slice a2 n2 c2)
                                  have hWw := HB4.out.2.2.1
                                  have hW5 : WordsIn _ a2 n2 c2 L := ⟨hWw.len, hWw.cap, hWw.most, hWw.low, (hWw.rd.store3 HB4.out.1 (fun _ => by simp [nv]) (fun _ => by simp [nv]) (fun _ => by simp [nv]) (.bool neg2) (.int .i64 e2) (.slice a2 n2 c2)).more (box_size _ _ _ _ _)⟩
                                  clear hS5 hc0 hc1 hc2 hf0 hf1 hf2 hd1' hd2' hWw
                                  generalize World.setCell _ _ _ = W5 at k0 k1 k2 hb5 hW5 ⊢
                                  refine ⟨rfl, .tuple #[.agg #[.bool neg2, .int .i64 e2, .slice a2 n2 c2], .int .i64 er], by simp [results, go_sem, k0, k1, k2], NumRes.of (ParseOut.some_ HEX.out (make_out HB3.out.1 HB4.out.2.2.2)) hW5 hb5⟩
                                · have HEX := Lib.hid (show form s.data.toList = some (neg, v, -(E : Int)) from hEX)
                                  clear hEX
                                  go_wp2_with (first
                                    | (go_at_call_of 42 neg; refine (refodd_any neg am nm cm v (-(E : Int)) _ HD.out.1 (by omega) (by omega) (by omega)).mono ?_; rintro r w3 ⟨neg1, a1, n1, c1, v1, e1, rfl, ho, hD1, hn1, he1, he3, hb3⟩; have HB3 := Lib.hid (And.intro ho (And.intro hD1 hb3)); clear ho hD1 hb3)
                                    | (refine (refnum_any neg1 a1 n1 c1 v1 e1 _ HB3.out.2.1 (by omega)).mono ?_; rintro r w4 ⟨neg2, e2, a2, n2, c2, L, er, rfl, hvn, hW4, hb4⟩;
                                       have hB4 := Below.next0 HB3.out.2.2 hb4;
                                       have hNN := HN.out.1.step hB4 HN.out.2.1;
                                       have hc0 := hNN.c0; have hc1 := hNN.c1; have hc2 := hNN.c2; have hf0 := hNN.f0; have hf1 := hNN.f1; have hf2 := hNN.f2; have hd1' := hNN.d1 (.bool neg2); have hd2' := hNN.d2 (.bool neg2) (.int .i64 e2);
                                       have HB4 := Lib.hid (And.intro hNN (And.intro (Below.next0 HN.out.2.2 hB4) (And.intro hW4 hvn))); clear hNN hb4 hB4 hW4 hvn))
                                  have hS5 := HB4.out.1.store (.bool neg2) (.int .i64 e2) (.slice a2 n2 c2)
                                  have k0 := hS5.c0
                                  have k1 := hS5.c1
                                  have k2 := hS5.c2
                                  have hb5 := NumBox.below HB4.out.2.1 (Nat.le_refl _) (.bool neg2) (.int .i64 e2) (.slice a2 n2 c2)
                                  have hWw := HB4.out.2.2.1
                                  have hW5 : WordsIn _ a2 n2 c2 L := ⟨hWw.len, hWw.cap, hWw.most, hWw.low, (hWw.rd.store3 HB4.out.1 (fun _ => by simp [nv]) (fun _ => by simp [nv]) (fun _ => by simp [nv]) (.bool neg2) (.int .i64 e2) (.slice a2 n2 c2)).more (box_size _ _ _ _ _)⟩
                                  clear hS5 hc0 hc1 hc2 hf0 hf1 hf2 hd1' hd2' hWw
                                  generalize World.setCell _ _ _ = W5 at k0 k1 k2 hb5 hW5 ⊢
                                  refine ⟨rfl, .tuple #[.agg #[.bool neg2, .int .i64 e2, .slice a2 n2 c2], .int .i64 er], by simp [results, go_sem, k0, k1, k2], NumRes.of (ParseOut.some_ HEX.out (make_out HB3.out.1 HB4.out.2.2.2)) hW5 hb5⟩
                        · have hfullI : ((T : Int) != (s.size : Int)) = true := by rw [bne_iff_ne]; omega
                          have hF : form s.data.toList = none := by
                            rw [hEX, expo_bad hlt2 HF1.out.2 HMK.out hk (.inl (by rw [hd]; exact hfull))]
                          have HF := Lib.hid hF
                          clear hcn hF hbad hEX hta2 HF1 hfull hT
                          go_wp2_with (refine HC.out.mono ?_; rintro r w1 ⟨rfl, rfl⟩)
                          have k0 := HER.out.1.c0
                          have k1 := HER.out.1.c1
                          have k2 := HER.out.1.c2
                          have hb5 := HER.out.2
                          clear hc0 hc1 hc2 hf0 hf1 hf2 hd1' hd2'
                          generalize World.setCell _ _ _ = W5 at k0 k1 k2 hb5 ⊢
                          refine ⟨rfl, .tuple #[.agg #[.bool false, .int .i64 0, .slice none 0 0], .int .i64 5], by simp [results, go_sem, k0, k1, k2], NumRes.of (ParseOut.none_ HF.out) (WordsIn.nil_ _) hb5⟩
                  · have hpI : (((s[i]'hlt2).toNat : Int) != 112) = true := by rw [bne_iff_ne]; intro e; exact hp (UInt8.toNat_inj.1 (show (s[i]'hlt2).toNat = 112 by omega))
                    have hF : form s.data.toList = none := by
                      by_cases h48 : (s[at_]'has) = 48
                      · exact HFO.out.2 h48 hlt2
                      · rw [HFO.out.1 (.inl h48), drop_cons hlt2, expo, if_pos hp]
                    have HF := Lib.hid hF
                    clear hF hp
                    go_wp2_with fail
                    have k0 := HER.out.1.c0
                    have k1 := HER.out.1.c1
                    have k2 := HER.out.1.c2
                    have hb5 := HER.out.2
                    clear hc0 hc1 hc2 hf0 hf1 hf2 hd1' hd2'
                    generalize World.setCell _ _ _ = W5 at k0 k1 k2 hb5 ⊢
                    refine ⟨rfl, .tuple #[.agg #[.bool false, .int .i64 0, .slice none 0 0], .int .i64 5], by simp [results, go_sem, k0, k1, k2], NumRes.of (ParseOut.none_ HF.out) (WordsIn.nil_ _) hb5⟩
end Go.Proofs.YtmocmkfpblakbaaGreatDoor
