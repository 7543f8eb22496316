/- The walk of the statement LogBursts: records of which some bits within 32 in a row were turned. Condition: the argument reads as slices of bytes. -/
import Derived.Test.YtopnhplacdbkdaaLogBack
import Derived.Test.YtopnhplacdbkdaaLogBurst
import Derived.Test.YtopnhplacdbkdaaCrcTurned
namespace Go.Proofs.Ytopnhplacdbkdaa
open Go.RowKit

/-- the byte of the first turned bit -/
def firstOf (k m : Nat) : Nat → Int
  | 0 => -1
  | j + 1 => if m / 2 ^ j % 2 = 1 ∧ firstOf k m j < 0 then (((k + j) / 8 : Nat) : Int) else firstOf k m j
theorem firstOf_step (k m j : Nat) : (m % 2 ^ j = 0 ∧ firstOf k m j = -1) ∨ (∃ low, low < j ∧ m % 2 ^ low = 0 ∧ m / 2 ^ low % 2 = 1 ∧ firstOf k m j = (((k + low) / 8 : Nat) : Int)) := by
  induction j with
  | zero => exact .inl ⟨Nat.mod_one _, rfl⟩
  | succ j ih =>
    rcases ih with ⟨h1, h2⟩ | ⟨low, hlow, h1, h2, h3⟩
    · by_cases hb : m / 2 ^ j % 2 = 1
      · exact .inr ⟨j, by omega, h1, hb, by unfold firstOf; rw [if_pos ⟨hb, by omega⟩]⟩
      · refine .inl ⟨?_, by unfold firstOf; rw [if_neg (by omega)]; exact h2⟩
        rw [Nat.pow_succ, Nat.mod_mul, h1, show m / 2 ^ j % 2 = 0 by omega, Nat.mul_zero]
    · exact .inr ⟨low, by omega, h1, h2, by unfold firstOf; rw [if_neg (by omega)]; exact h3⟩
theorem firstOf_end {k m : Nat} (hm : m < 4294967296) (h0 : m ≠ 0) : ∃ low, low < 32 ∧ m % 2 ^ low = 0 ∧ m / 2 ^ low % 2 = 1 ∧ firstOf k m 32 = (((k + low) / 8 : Nat) : Int) := by
  rcases firstOf_step k m 32 with ⟨h, _⟩ | h
  · rw [Nat.mod_eq_of_lt hm] at h; exact absurd h h0
  · exact h
theorem firstOf_range (k m j : Nat) (hj : j ≤ 32) : -1 ≤ firstOf k m j ∧ firstOf k m j ≤ (k + 32 : Nat) := by
  rcases firstOf_step k m j with ⟨_, h⟩ | ⟨low, _, _, _, h⟩
  · rw [h]; omega
  · rw [h]; omega
theorem bursts_parts {ps : List Part} (hl : ∀ p ∈ ps, p.bs.length ≤ 300) {k m low j : Nat} {p : Part} (hm : m < 4294967296) (h0 : m % 2 ^ low = 0) (h1 : m / 2 ^ low % 2 = 1) (hk : k + 32 ≤ 8 * (catP ps).length) (hj : ps[j]? = some p)
    (hs : (catP (ps.take j)).length ≤ (k + low) / 8) (hf : (k + low) / 8 < (catP (ps.take j)).length + (p.bs.length + 12)) :
    LogM.whole (CrcM.turn (catP ps) k m 32) = (catP (ps.take j)).length ∧ (LogM.next ((CrcM.turn (catP ps) k m 32).drop (catP (ps.take j)).length)).2.2 = 11 := by
  obtain ⟨hjl, hjp⟩ := List.getElem?_eq_some_iff.1 hj
  have e : catP (ps.take j) = LogM.catB ((ps.map (·.bs)).take j) := by rw [catP_catB, List.map_take]
  have hj' : j < (ps.map (·.bs)).length := by simpa using hjl
  have hget : ((ps.map (·.bs))[j]'hj') = p.bs := by simp [hjp]
  have := LogM.bursts (ps.map (·.bs)) (parts_most hl) (T' := CrcM.turn (catP ps) k m 32) (k := k) (m := m) (f := k + low) (j := j) (by rw [CrcM.turn_length, catP_catB])
    (by rw [CrcM.num_turn _ _ _ _ hk, Nat.mod_eq_of_lt (a := m) (b := 2 ^ 32) hm, catP_catB]) hm (by rw [Nat.pow_add, Nat.mul_mod_mul_left, h0, Nat.mul_zero]) (by rw [Nat.pow_add, Nat.mul_div_mul_left _ _ (Nat.two_pow_pos k)]; exact h1) hj' (by rw [← e]; omega) (by rw [← e, hget]; omega)
  rw [← e] at this
  exact this

set_option maxRecDepth 100000 in
set_option maxHeartbeats 4000000 in
theorem walkLogBursts (a : Option Addr) (n c : Nat) (ps : List Part) (at_ m : Nat) (w : World) (hn : ps.length = n) (hm : n ≤ 9223372036854775807) (h : RdP w w.heap.size a ps) (hp : ∀ p ∈ ps, p.n ≤ 9223372036854775807 ∧ p.n ≤ p.c ∧ p.c ≤ 9223372036854775807) (hat : at_ < 65536) (hml : m < 4294967296) :
    Calls Try.prog 11 #[.slice a n c, .int .u16 (at_ : Int), .int .u32 (m : Int)] w fun e w' => e = .returned (.bool true) ∧ Below w.heap.size w w' := by
  have HN := Lib.hid hn
  clear hn
  by_cases hfew : fewB ps = true
  rotate_left
  · have hfe : fewB ps = false := by simpa using hfew
    go_enter Try.func11, Try.ntmps11
    go_wp2_with fail
    refine (logknown_any w).mono ?_
    rintro e w1 ⟨rfl, hB1⟩
    go_wp2_with fail
    refine (few_any a n c ps w1 HN.out hm (h.step hB1) (fun p hpp => (hp p hpp).1)).mono ?_
    rintro e w2 ⟨rfl, rfl⟩
    rw [hfe]
    go_wp2_with fail
    go_ret
    exact ⟨rfl, hB1⟩
  by_cases hn0 : n = 0
  · subst hn0
    go_enter Try.func11, Try.ntmps11
    go_wp2_with fail
    refine (logknown_any w).mono ?_
    rintro e w1 ⟨rfl, hB1⟩
    go_wp2_with fail
    refine (few_any a 0 c ps w1 HN.out hm (h.step hB1) (fun p hpp => (hp p hpp).1)).mono ?_
    rintro e w2 ⟨rfl, rfl⟩
    rw [hfew]
    go_wp2_with fail
    go_ret
    exact ⟨rfl, hB1⟩
  have hnz : ((n : Int) == 0) = false := by rw [beq_eq_false_iff_ne]; omega
  by_cases hm0 : m = 0
  · subst hm0
    go_enter Try.func11, Try.ntmps11
    go_wp2_with fail
    refine (logknown_any w).mono ?_
    rintro e w1 ⟨rfl, hB1⟩
    go_wp2_with fail
    refine (few_any a n c ps w1 HN.out hm (h.step hB1) (fun p hpp => (hp p hpp).1)).mono ?_
    rintro e w2 ⟨rfl, rfl⟩
    rw [hfew]
    go_wp2_with fail
    go_ret
    exact ⟨rfl, hB1⟩
  have hz : ((m : Int) == 0) = false := by rw [beq_eq_false_iff_ne]; omega
  obtain ⟨h20, h300⟩ := few_yes hfew
  go_enter Try.func11, Try.ntmps11
  go_wp2_with fail
  refine (logknown_any w).mono ?_
  rintro e w1 ⟨rfl, hB1⟩
  have h1 := h.step hB1
  clear h
  go_wp2_with fail
  refine (few_any a n c ps w1 HN.out hm h1 (fun p hpp => (hp p hpp).1)).mono ?_
  rintro e w2 ⟨rfl, rfl⟩
  rw [hfew]
  have hpl : ∀ p ∈ ps, p.bs.length = p.n := fun p hpp => by
    obtain ⟨j, hj, e⟩ := List.getElem_of_mem hpp
    obtain ⟨_, _, q, _, _, hq, _, hl, _⟩ := h1.at_ hj
    rw [List.getElem?_eq_getElem hj, e] at hq
    injection hq with hq
    subst hq; exact hl
  have H20 := Lib.hid h20
  have H300 := Lib.hid h300
  have HPL := Lib.hid hpl
  have HBS := Lib.hid (show ∀ p ∈ ps, p.bs.length ≤ 300 from fun p hpp => by rw [hpl p hpp]; exact h300 p hpp)
  have hT : (catP ps).length ≤ 6240 := catP_small ps h20 HBS.out
  have hT12 : 12 ≤ (catP ps).length := by
    have hps : ps ≠ [] := by intro e; have := HN.out; rw [e] at this; simp at this; omega
    obtain ⟨p, q, e⟩ := List.exists_cons_of_ne_nil hps
    rw [e]; simp [catP, LogM.put_length]; omega
  clear hp hfew h20 h300 hpl
  go_wp2_with fail
  refine (alls_any a n c ps w1 HN.out (by rw [← HN.out]; exact H20.out) h1 H300.out HPL.out).mono ?_
  rintro e w3 ⟨a3, c3, rfl, ho3, hb3⟩
  have hcap3 := ho3.cap
  unfold maxLen at hcap3
  have HCAP := Lib.hid hcap3
  obtain ⟨TL, hTL⟩ : ∃ TL, TL = (catP ps).length := ⟨_, rfl⟩
  have HTL := Lib.hid hTL
  rw [← hTL] at hT hT12 ho3 hcap3 ⊢
  clear hTL
  obtain ⟨k, hke, hkl⟩ : ∃ k : Nat, (at_ : Int).tmod (8 * (TL : Int) - 31) = (k : Int) ∧ k + 32 ≤ 8 * TL := ⟨at_ % (8 * TL - 31), by rw [show (8 * (TL : Int) - 31) = ((8 * TL - 31 : Nat) : Int) by omega, ← Int.ofNat_tmod], by have := Nat.mod_lt at_ (show 0 < 8 * TL - 31 by omega); omega⟩
  go_wp2_with fail
  clear hke
  go_loopw [10, 11] (fun fi i wr => ∃ j : Nat, j ≤ 32 ∧ i = .int .i64 j ∧ fi = .int .i64 (firstOf k m j) ∧ Own wr w1.heap.size a3 TL c3 (CrcM.turn (catP ps) k m j) ∧ Below w1.heap.size w1 wr) (fun _ i _ => 32 - (intOf i).toNat)
  case atStart => exact ⟨0, by omega, rfl, rfl, ho3, hb3⟩
  case round =>
    obtain ⟨j, hj, rfl, rfl, hown, hbel⟩ := hrel
    by_cases hlt : j < 32
    · have hrange := firstOf_range k m j (by omega)
      have hb : bits .and .u32 ((m : Int) / 2 ^ j) 1 = ((m / 2 ^ j % 2 : Nat) : Int) := by
        have e : (m : Int) / 2 ^ j = ((m / 2 ^ j : Nat) : Int) := by simp
        rw [e, show (1 : Int) = ((1 : Nat) : Int) from rfl, u32_and_nat _ 1 (by have := Nat.div_le_self m (2 ^ j); omega) (by omega), nat_mask1]
      rcases Nat.mod_two_eq_zero_or_one (m / 2 ^ j) with h2 | h2
      · rw [h2] at hb
        have hfo : firstOf k m (j + 1) = firstOf k m j := by show (if _ then _ else _) = _; rw [if_neg (by omega)]
        have H2 := Lib.hid h2
        have HFO := Lib.hid hfo
        clear h2 hfo
        go_wp2_with fail
        go_roundw
        case rel => exact ⟨j + 1, by omega, by go_num, by rw [HFO.out], by rw [CrcM.turn_no H2.out]; exact hown, hbel⟩
        case measure => simp [intOf]; omega
      · rw [h2] at hb
        obtain ⟨g, rfl, hgB, hgl⟩ := hown.at_ (by omega)
        have hi : (k + j) / 8 < TL := by omega
        obtain ⟨x, hx⟩ : ∃ x, (CrcM.turn (catP ps) k m j)[(k + j) / 8]? = some x := ⟨_, List.getElem?_eq_getElem (by rw [hown.len]; exact hi)⟩
        have hcell := hown.cell hx
        have hfr := hown.frozen ((k + j) / 8)
        have ht := CrcM.turn_yes (b := catP ps) (k := k) (m := m) (j := j) h2 (by rw [← HTL.out]; omega) hx
        have HX := Lib.hid hx
        have HT := Lib.hid ht
        have H2 := Lib.hid h2
        clear hx ht h2
        by_cases hneg : firstOf k m j < 0
        · have HFO := Lib.hid (show firstOf k m (j + 1) = (((k + j) / 8 : Nat) : Int) by show (if _ then _ else _) = _; rw [if_pos ⟨H2.out, hneg⟩])
          go_wp2_with fail
          have hcell' : wr.cell? ⟨g, ((k : Int) + j).toNat / 8, none⟩ = some (.int .u8 (x.toNat : Int)) := by rw [show ((k : Int) + j).toNat = k + j by omega]; exact hcell
          go_region
          go_wp2_with fail
          go_roundw
          case rel =>
            rw [xor_pow x _ (Nat.mod_lt _ (by omega))]
            exact ⟨j + 1, by omega, by go_num, by rw [HFO.out]; push_cast; rfl, by rw [HT.out]; exact hown.store _, (hbel.setCell hgB _).drew⟩
          case measure => simp [intOf]; omega
        · have HFO := Lib.hid (show firstOf k m (j + 1) = firstOf k m j by show (if _ then _ else _) = _; rw [if_neg (by omega)])
          go_wp2_with fail
          have hcell' : wr.cell? ⟨g, ((k : Int) + j).toNat / 8, none⟩ = some (.int .u8 (x.toNat : Int)) := by rw [show ((k : Int) + j).toNat = k + j by omega]; exact hcell
          go_region
          go_wp2_with fail
          go_roundw
          case rel =>
            rw [xor_pow x _ (Nat.mod_lt _ (by omega))]
            exact ⟨j + 1, by omega, by go_num, by rw [HFO.out], by rw [HT.out]; exact hown.store _, (hbel.setCell hgB _).drew⟩
          case measure => simp [intOf]; omega
    · obtain rfl : j = 32 := by omega
      obtain ⟨low, hlow, hm0', hm1, hfe⟩ := firstOf_end (k := k) hml hm0
      obtain ⟨F, hF⟩ : ∃ F : Nat, F = (k + low) / 8 := ⟨_, rfl⟩
      have hFT : F < TL := by omega
      rw [← hF] at hfe
      rw [hfe]
      have HFF := Lib.hid hF
      have HM0 := Lib.hid hm0'
      have HM1 := Lib.hid hm1
      have HK := Lib.hid (show k + 32 ≤ 8 * (catP ps).length by rw [← HTL.out]; exact hkl)
      have hr := hown.rd
      have hTl := hown.len
      have HTl := Lib.hid hTl
      have hBw : Below w.heap.size w wr := Below.next0 hB1 hbel
      have h4 := h1.step hbel
      clear hF hm0' hm1 hfe hkl hTl hown ho3 hb3 h1 hbel
      go_wp2_with fail
      go_loop [12, 13] (fun wv iv => ∃ j : Nat, j ≤ n ∧ iv = .int .i64 j ∧ wv = .int .i64 ((catP (ps.take j)).length : Nat) ∧ (catP (ps.take j)).length ≤ F) (fun _ iv => n - (intOf iv).toNat)
      case atStart => exact ⟨0, Nat.zero_le _, rfl, rfl, Nat.zero_le _⟩
      case round =>
        obtain ⟨j, hj, rfl, rfl, hle⟩ := hrel
        by_cases hlt : j < n
        · obtain ⟨b, o, p, rfl, hb, hpk, hc, hl, _⟩ := h4.at_ (show j < ps.length by rw [HN.out]; exact hlt)
          have hp3 := H300.out p (List.mem_of_getElem? hpk)
          have hsum : max (min ((p.n : Nat) : Int) 65536) 0 + 12 = ((p.n + 12 : Nat) : Int) := by omega
          have HLen : Hid ((catP (ps.take (j + 1))).length = (catP (ps.take j)).length + (p.n + 12)) := Lib.hid (by rw [catP_snoc hpk, List.length_append, LogM.put_length, hl])
          have HL := Lib.hid hl
          have HPK := Lib.hid hpk
          clear hl hpk
          generalize hW : (catP (ps.take j)).length = W at hle HLen ⊢
          have hWL : W ≤ TL := by omega
          by_cases hfit : W + (p.n + 12) ≤ F
          · go_wp2_with fail
            refine (size_any _ _).mono ?_
            rintro e w4 ⟨rfl, rfl⟩
            rw [hsum]
            have hfit' : (W : Int) + ((p.n + 12 : Nat) : Int) ≤ (F : Int) := by omega
            go_wp2_with fail
            refine (size_any _ _).mono ?_
            rintro e w4 ⟨rfl, rfl⟩
            rw [hsum]
            go_wp2_with fail
            go_round
            case rel =>
              refine ⟨trivial, ?_⟩
              repeat apply Exists.intro
              refine ⟨?_, rfl⟩
              exact ⟨j + 1, by omega, by go_num, by rw [HLen.out]; push_cast; rfl, by rw [HLen.out]; exact hfit⟩
            case measure => simp [intOf]; omega
          · have hlaw := bursts_parts (ps := ps) (k := k) (m := m) (low := low) (j := j) (p := p) HBS.out hml HM0.out HM1.out HK.out HPK.out (by rw [hW, ← HFF.out]; exact hle) (by rw [hW, ← HFF.out, HL.out]; omega)
            rw [hW] at hlaw
            obtain ⟨hlw, hln⟩ := hlaw
            have HLW := Lib.hid hlw
            have HLN := Lib.hid hln
            clear hlw hln hW
            generalize CrcM.turn (catP ps) k m 32 = X at HLW HLN HTl hr
            have hsl := fun V => slice_l_b V a3 TL c3 .i64 (W : Int) (by omega) (by omega)
            have hrc := hr.cutA (p := W) (c := c3) (by rw [HTl.out]; exact hcap3.1)
            have hcap1 : TL - W ≤ c3 - W := by omega
            have hcap2 : c3 - W ≤ 9223372036854775807 := by omega
            go_wp2_with fail
            refine (size_any _ _).mono ?_
            rintro e w4 ⟨rfl, rfl⟩
            rw [hsum]
            have hfit' : ¬ (W : Int) + ((p.n + 12 : Nat) : Int) ≤ (F : Int) := by omega
            go_wp2_with fail
            refine (lognext_any (cutA a3 c3 W 1) (TL - W) (c3 - W) (X.drop W) _ (by rw [List.length_drop, HTl.out]) (by omega) hcap1 hcap2 hrc).mono ?_
            generalize hnx : LogM.next (X.drop W) = r at HLN
            obtain ⟨x, M, E⟩ := r
            have hE : E = 11 := HLN.out
            subst hE
            rintro e w5 ⟨a2, c2, rfl, ho2, hb2⟩
            have hr5 := hr.step hb2
            have hB5 : Below w.heap.size w w5 := Below.next0 hBw hb2
            clear hnx ho2 hrc hb2 hr
            go_wp2_with fail
            refine (whole_any a3 TL c3 X w5 HTl.out (by omega) hr5).mono ?_
            rw [HLW.out]
            rintro e w6 ⟨rfl, hb6⟩
            have hB6 : Below w.heap.size w w6 := Below.next0 hB5 hb6
            go_wp2_with fail
            go_ret
            exact ⟨rfl, hB6⟩
        · obtain rfl : j = n := by omega
          exfalso
          rw [List.take_of_length_le (by rw [HN.out]; exact Nat.le_refl _), ← HTL.out] at hle
          omega
end Go.Proofs.Ytopnhplacdbkdaa
