/- The walk of a division of two words by a word whose top bit is set. Condition: the high word is below the divisor. -/
import Derived.Test.YtmocmkfpblakbaaDoorNatA
import Derived.Test.YtmocmkfpblakbaaDoorDiv64M
import Derived.Deep.CutBlock
import Derived.Deep.DeepCutAuto
import Derived.Laws.Bits64b
import Derived.BigQuiet
namespace Go.Proofs.YtmocmkfpblakbaaDoor
open Go.RowKit WordsM

theorem bitLenAux_low : ∀ (f x : Nat), 0 < f → 2 ^ (f - 1) ≤ x → Lib.bitLenAux f x = f
  | 0, x, h, _ => absurd h (by omega)
  | f + 1, x, _, hx => by
    rw [Lib.bitLenAux]
    have hp : 0 < 2 ^ f := Nat.pow_pos (by decide)
    rw [Nat.add_sub_cancel] at hx
    rw [if_neg (by omega)]
    cases f with
    | zero => simp [Lib.bitLenAux]
    | succ f =>
      rw [bitLenAux_low (f + 1) (x / 2) (by omega) (by rw [Nat.add_sub_cancel, Nat.le_div_iff_mul_le (by decide), ← Nat.pow_succ]; exact hx)]
      omega
set_option maxRecDepth 100000 in
set_option maxHeartbeats 8000000 in
theorem div64_any (hi lo y : Nat) (w : World) (hh : hi < y) (hlo : lo < 18446744073709551616) (hy : 9223372036854775808 ≤ y) (hy2 : y < 18446744073709551616) :
    Calls Tryd.prog 76 #[.int .u64 (hi : Int), .int .u64 (lo : Int), .int .u64 (y : Int)] w fun e w' =>
      e = .returned (.tuple #[.int .u64 (((hi * 18446744073709551616 + lo) / y : Nat) : Int), .int .u64 (((hi * 18446744073709551616 + lo) % y : Nat) : Int)]) ∧ Below w.heap.size w w' := by
  have hbl : Lib.bitLen y = 64 := bitLenAux_low 64 y (by decide) hy
  have hlz := fun W => Tryd.bits_LeadingZeros64 (y : Int) W (by omega) (by omega)
  rw [Int.toNat_natCast, hbl] at hlz
  have hlz2 := fun W => (hlz W).mono (R' := fun e w' => e = .returned (.int .i64 (64 - ((64 : Nat) : Int))) ∧ W = w') (by rintro e w' ⟨h1, h2⟩; exact ⟨h1, h2.symm⟩)
  have HLZ := Lib.hid hlz2
  clear hlz hlz2 hbl
  by_cases h0 : hi = 0
  · subst h0
    rw [Nat.zero_mul, Nat.zero_add]
    obtain ⟨q, hq⟩ : ∃ q, lo / y = q := ⟨_, rfl⟩
    obtain ⟨r, hr⟩ : ∃ r, lo % y = r := ⟨_, rfl⟩
    have hql : q < 18446744073709551616 := by rw [← hq]; exact Nat.lt_of_le_of_lt (Nat.div_le_self _ _) hlo
    have hqI : (lo : Int) / (y : Int) = (q : Int) := by rw [← hq]; norm_cast
    have hrI : (lo : Int) % (y : Int) = (r : Int) := by rw [← hr]; norm_cast
    rw [hq, hr]
    go_enter Tryd.func76, Tryd.ntmps76
    go_wp2_with fail
    go_quiet (fail)
    go_wp2_with fail
    refine ⟨rfl, .tuple #[.int .u64 (q : Int), .int .u64 (r : Int)], by simp [results, go_sem, hrI], rfl, ⟨rfl, rfl, rfl, Nat.le_refl _, fun _ _ => rfl⟩⟩
  · have h0' : ((hi : Int) == 0) = false := by rw [beq_eq_false_iff_ne]; omega
    obtain ⟨y1, hy1d⟩ : ∃ z, y / 4294967296 = z := ⟨_, rfl⟩
    obtain ⟨y0, hy0d⟩ : ∃ z, y % 4294967296 = z := ⟨_, rfl⟩
    obtain ⟨l1, hl1d⟩ : ∃ z, lo / 4294967296 = z := ⟨_, rfl⟩
    obtain ⟨l0, hl0d⟩ : ∃ z, lo % 4294967296 = z := ⟨_, rfl⟩
    have hyy : y = y1 * 4294967296 + y0 := by omega
    have hl_l1 : l1 < 4294967296 := by omega
    have hl_l0 : l0 < 4294967296 := by omega
    obtain ⟨t1, ht1⟩ : ∃ z, (hi * 4294967296 + l1) / y = z := ⟨_, rfl⟩
    obtain ⟨u2, hu2⟩ : ∃ z, (hi * 4294967296 + l1) % y = z := ⟨_, rfl⟩
    obtain ⟨t0, ht0⟩ : ∃ z, (u2 * 4294967296 + l0) / y = z := ⟨_, rfl⟩
    obtain ⟨rr, hrr⟩ : ∃ z, (u2 * 4294967296 + l0) % y = z := ⟨_, rfl⟩
    have hhal := Div64M.halves (D := 4294967296) (y := y) (hi := hi) (l1 := l1) (l0 := l0) (by omega)
    rw [show 4294967296 * 4294967296 = 18446744073709551616 from rfl, show l1 * 4294967296 + l0 = lo by omega, ht1, hu2, ht0, hrr] at hhal
    rw [hhal.1, hhal.2]
    have ht1l : t1 < 4294967296 := by rw [← ht1]; exact Div64M.quot_low hh hl_l1
    have hu2l : u2 < y := by rw [← hu2]; exact Nat.mod_lt _ (by omega)
    have ht0l : t0 < 4294967296 := by rw [← ht0]; exact Div64M.quot_low hu2l hl_l0
    have hd1 := Nat.div_add_mod (hi * 4294967296 + l1) y
    have hd0 := Nat.div_add_mod (u2 * 4294967296 + l0) y
    rw [ht1, hu2, Nat.mul_comm y] at hd1
    rw [ht0, hrr, Nat.mul_comm y] at hd0
    have hrrl : rr < y := by rw [← hrr]; exact Nat.mod_lt _ (by omega)
    obtain ⟨T1, hT1⟩ : ∃ z, t1 * y = z := ⟨_, rfl⟩
    obtain ⟨T0, hT0⟩ : ∃ z, t0 * y = z := ⟨_, rfl⟩
    have hT1I : (t1 : Int) * (y : Int) = (T1 : Int) := by rw [← hT1]; norm_cast
    have hT0I : (t0 : Int) * (y : Int) = (T0 : Int) := by rw [← hT0]; norm_cast
    rw [hT1] at hd1
    rw [hT0] at hd0
    have hlo64 : (lo : Int) / 18446744073709551616 = 0 := by omega
    have hy1I : (y : Int) / 4294967296 = (y1 : Int) := by omega
    have hl1I : (lo : Int) / 4294967296 = (l1 : Int) := by omega
    have hor : bits .or .u64 (hi : Int) 0 = (hi : Int) := by have := bits_or_u64_nat hi 0 (by omega) (by decide); simpa using this
    have hand : ∀ z : Nat, z < 18446744073709551616 → bits .and .u64 (z : Int) 4294967295 = ((z % 4294967296 : Nat) : Int) := fun z hz => by
      have h1 := bits_and_u64_nat z 4294967295 hz (by decide)
      rw [show (4294967295 : Nat) = 2 ^ 32 - 1 from rfl, Nat.and_two_pow_sub_one_eq_mod] at h1
      exact h1
    have hy0I : bits .and .u64 (y : Int) 4294967295 = (y0 : Int) := by rw [hand y hy2, hy0d]
    have hl0I : bits .and .u64 (lo : Int) 4294967295 = (l0 : Int) := by rw [hand lo hlo, hl0d]
    clear hand
    have HYY := Lib.hid hyy
    have hU2 : IntKind.u64.wrap (IntKind.u64.wrap (IntKind.u64.wrap ((hi : Int) * 4294967296) + (l1 : Int)) - IntKind.u64.wrap (T1 : Int)) = (u2 : Int) := by
      simp only [IntKind.wrap, IntKind.signed, IntKind.bits, Bool.false_and, Bool.false_eq_true, if_false]
      omega
    have hU0 : IntKind.u64.wrap (IntKind.u64.wrap (IntKind.u64.wrap ((u2 : Int) * 4294967296) + (l0 : Int)) - IntKind.u64.wrap (T0 : Int)) = (rr : Int) := by
      simp only [IntKind.wrap, IntKind.signed, IntKind.bits, Bool.false_and, Bool.false_eq_true, if_false]
      omega
    have HU := Lib.hid hh
    have hyb : 2147483648 ≤ y1 ∧ y1 < 4294967296 ∧ y0 < 4294967296 := by omega
    have HYP := Lib.hid (show 0 < y1 * 4294967296 + y0 by omega)
    clear hyy hy1d hy0d hl1d hl0d hhal hd1 hd0
    obtain ⟨qg, hqgd⟩ : ∃ q, hi / y1 = q := ⟨_, rfl⟩
    have hqI : (hi : Int).tdiv (y1 : Int) = (qg : Int) := by rw [← hqgd, ← Int.ofNat_tdiv]
    obtain ⟨Pg, hPg⟩ : ∃ P, qg * y1 = P := ⟨_, rfl⟩
    have hPgI : (qg : Int) * (y1 : Int) = (Pg : Int) := by rw [← hPg]; norm_cast
    obtain ⟨rg, hrgd⟩ : ∃ r, hi % y1 = r := ⟨_, rfl⟩
    have hdm := Nat.div_add_mod hi y1
    rw [hqgd, hrgd, Nat.mul_comm, hPg] at hdm
    have hrg : rg < 4294967296 := by have := Nat.mod_lt hi (show 0 < y1 by omega); omega
    have hrI : (hi : Int) - (Pg : Int) = (rg : Int) := by omega
    have hinv : qg * y1 + rg = hi := by rw [hPg]; exact hdm
    have hqg : qg ≤ 4294967296 + 1 := by rw [← hqgd]; exact Div64M.guess_le (D := 4294967296) (y0 := y0) (by rw [← HYY.out]; exact HU.out) (by omega) (by omega)
    have hge : t1 ≤ qg := by rw [← hqgd, ← ht1, HYY.out]; exact Div64M.guess_ge (by omega) hl_l1
    go_enter Tryd.func76, Tryd.ntmps76
    go_upto_block 0 with (refine (HLZ.out _).mono ?_; rintro e w1 ⟨rfl, rfl⟩)
    go_cut [15] (fun qv wx => qv = .int .u64 (t1 : Int) ∧ w = wx)
    case first =>
      go_wp2_with fail
      go_loopw [15, 16] (fun qv rv wr => ∃ (q r : Nat), qv = .int .u64 (q : Int) ∧ rv = .int .u64 (r : Int) ∧ q * y1 + r = hi ∧ t1 ≤ q ∧ q ≤ 4294967296 + 1 ∧ r < 4294967296 ∧ wr = w) (fun qv _ _ => (intOf qv).toNat)
      case atStart => exact ⟨qg, rg, rfl, rfl, hinv, hge, hqg, hrg, rfl⟩
      case round =>
        clear hinv hge hqg hrg
        obtain ⟨q, r, rfl, rfl, hinv, hge, hqg, hrg, rfl⟩ := hrel
        obtain ⟨P, hP⟩ : ∃ P, q * y0 = P := ⟨_, rfl⟩
        have hPI : (q : Int) * (y0 : Int) = (P : Int) := by rw [← hP]; norm_cast
        have hPl : q < 4294967296 → P < 18446744073709551616 := fun h => by
          have : q * y0 ≤ 4294967296 * y0 := Nat.mul_le_mul_right y0 (by omega)
          omega
        have hrge : (0 : Int) ≤ (r : Int) := Int.natCast_nonneg _
        have hrlt : (r : Int) < 4294967296 := by omega
        have HCC : 4294967296 ≤ q ∨ ¬ 4294967296 ≤ q := by omega
        by_cases hc : 4294967296 ≤ q ∨ 4294967296 * r + l1 < P
        · have htg := Div64M.too_great (D := 4294967296) (d := l1) (y0 := y0) (q := q) (r := r) (u := hi) (y1 := y1) (by rw [← HYY.out]; exact HU.out) hl_l1 hinv (by rw [hP]; exact hc)
          rw [← HYY.out, ht1] at htg
          obtain ⟨p, hp⟩ : ∃ p, q = p + 1 := ⟨q - 1, by omega⟩
          have hinv2 : p * y1 + (r + y1) = hi := by rw [← hinv, hp, Nat.add_mul]; omega
          have hpI : (q : Int) - 1 = (p : Int) := by omega
          have hq1 : (1 : Int) ≤ (q : Int) := by omega
          have hgp : t1 ≤ p := by omega
          have hpm : p ≤ 4294967296 := by omega
          have hpq : p < q := by omega
          have HINV := Lib.hid hinv2
          have hcs : (4294967296 ≤ q) ∨ (¬ 4294967296 ≤ q ∧ 4294967296 * r + l1 < P) := by omega
          have HCS := Lib.hid hcs
          clear hc hp htg hinv hinv2 hcs HCC
          by_cases hr2 : 4294967296 ≤ r + y1
          · have hot := Div64M.out_step (D := 4294967296) (y1 := y1) (y0 := y0) (u := hi) (d := l1) (q := p) (r := r + y1) HYP.out (by omega) HINV.out (by rw [← HYY.out, ht1]; omega) (by omega) hr2
            rw [← HYY.out, ht1] at hot
            have hr2I : (4294967296 : Int) ≤ (r : Int) + (y1 : Int) := by omega
            have HOT := Lib.hid hot
            clear hr2 hot
            rcases HCS.out with hc | ⟨hc3, hc⟩
            · have hc' : (4294967296 : Int) ≤ (q : Int) := by omega
              clear hc hPl
              go_wp2_with fail
              go_meet
              exact ⟨by rw [HOT.out], rfl⟩
            · have hPl' := hPl (by omega)
              have hcI : 4294967296 * (r : Int) + (l1 : Int) < (P : Int) := by omega
              have hc3I : ¬ (4294967296 : Int) ≤ (q : Int) := by omega
              clear hc hc3 hPl
              go_wp2_with fail
              go_meet
              exact ⟨by rw [HOT.out], rfl⟩
          · have hr2I : ¬ (4294967296 : Int) ≤ (r : Int) + (y1 : Int) := by omega
            have HR2 := Lib.hid hr2
            clear hr2
            rcases HCS.out with hc | ⟨hc3, hc⟩
            · have hc' : (4294967296 : Int) ≤ (q : Int) := by omega
              clear hc hPl
              go_wp2_with fail
              exact ⟨⟨p, r + y1, rfl, by simp, HINV.out, hgp, by omega, by have := HR2.out; omega, trivial⟩, by simp only [intOf]; omega⟩
            · have hPl' := hPl (by omega)
              have hcI : 4294967296 * (r : Int) + (l1 : Int) < (P : Int) := by omega
              have hc3I : ¬ (4294967296 : Int) ≤ (q : Int) := by omega
              clear hc hc3 hPl
              go_wp2_with fail
              exact ⟨⟨p, r + y1, rfl, by simp, HINV.out, hgp, by omega, by have := HR2.out; omega, trivial⟩, by simp only [intOf]; omega⟩
        · have hot := Div64M.out_cond (D := 4294967296) (y1 := y1) (y0 := y0) (u := hi) (d := l1) (q := q) (r := r) HYP.out hinv (by rw [← HYY.out, ht1]; exact hge) (by rw [hP]; omega)
          rw [← HYY.out, ht1] at hot
          subst hot
          have hPl' := hPl (by omega)
          have hc1 : ¬ ((4294967296 : Int) ≤ (q : Int)) := by omega
          have hc2 : ¬ (4294967296 * (r : Int) + (l1 : Int) < (P : Int)) := by omega
          clear hc
          go_wp2_with fail
          go_meet
          exact ⟨rfl, rfl⟩
    case rest =>
      obtain ⟨rfl, rfl⟩ := hcut
      clear hinv hge hqg hrg hqI hPgI hrI hPg hrgd hqgd hdm HU
      have HU := Lib.hid hu2l
      obtain ⟨qg, hqgd⟩ : ∃ q, u2 / y1 = q := ⟨_, rfl⟩
      have hqI : (u2 : Int).tdiv (y1 : Int) = (qg : Int) := by rw [← hqgd, ← Int.ofNat_tdiv]
      obtain ⟨Pg, hPg⟩ : ∃ P, qg * y1 = P := ⟨_, rfl⟩
      have hPgI : (qg : Int) * (y1 : Int) = (Pg : Int) := by rw [← hPg]; norm_cast
      obtain ⟨rg, hrgd⟩ : ∃ r, u2 % y1 = r := ⟨_, rfl⟩
      have hdm := Nat.div_add_mod u2 y1
      rw [hqgd, hrgd, Nat.mul_comm, hPg] at hdm
      have hrg : rg < 4294967296 := by have := Nat.mod_lt u2 (show 0 < y1 by omega); omega
      have hrI : (u2 : Int) - (Pg : Int) = (rg : Int) := by omega
      have hinv : qg * y1 + rg = u2 := by rw [hPg]; exact hdm
      have hqg : qg ≤ 4294967296 + 1 := by rw [← hqgd]; exact Div64M.guess_le (D := 4294967296) (y0 := y0) (by rw [← HYY.out]; exact HU.out) (by omega) (by omega)
      have hge : t0 ≤ qg := by rw [← hqgd, ← ht0, HYY.out]; exact Div64M.guess_ge (by omega) hl_l0
      go_upto_block 2 with fail
      go_cut [18] (fun qv wx => qv = .int .u64 (t0 : Int) ∧ w = wx)
      case first =>
        go_wp2_with fail
        go_loopw [18, 16] (fun qv rv wr => ∃ (q r : Nat), qv = .int .u64 (q : Int) ∧ rv = .int .u64 (r : Int) ∧ q * y1 + r = u2 ∧ t0 ≤ q ∧ q ≤ 4294967296 + 1 ∧ r < 4294967296 ∧ wr = w) (fun qv _ _ => (intOf qv).toNat)
        case atStart => exact ⟨qg, rg, rfl, rfl, hinv, hge, hqg, hrg, rfl⟩
        case round =>
          clear hinv hge hqg hrg
          obtain ⟨q, r, rfl, rfl, hinv, hge, hqg, hrg, rfl⟩ := hrel
          obtain ⟨P, hP⟩ : ∃ P, q * y0 = P := ⟨_, rfl⟩
          have hPI : (q : Int) * (y0 : Int) = (P : Int) := by rw [← hP]; norm_cast
          have hPl : q < 4294967296 → P < 18446744073709551616 := fun h => by
            have : q * y0 ≤ 4294967296 * y0 := Nat.mul_le_mul_right y0 (by omega)
            omega
          have hrge : (0 : Int) ≤ (r : Int) := Int.natCast_nonneg _
          have hrlt : (r : Int) < 4294967296 := by omega
          have HCC : 4294967296 ≤ q ∨ ¬ 4294967296 ≤ q := by omega
          by_cases hc : 4294967296 ≤ q ∨ 4294967296 * r + l0 < P
          · have htg := Div64M.too_great (D := 4294967296) (d := l0) (y0 := y0) (q := q) (r := r) (u := u2) (y1 := y1) (by rw [← HYY.out]; exact HU.out) hl_l0 hinv (by rw [hP]; exact hc)
            rw [← HYY.out, ht0] at htg
            obtain ⟨p, hp⟩ : ∃ p, q = p + 1 := ⟨q - 1, by omega⟩
            have hinv2 : p * y1 + (r + y1) = u2 := by rw [← hinv, hp, Nat.add_mul]; omega
            have hpI : (q : Int) - 1 = (p : Int) := by omega
            have hq1 : (1 : Int) ≤ (q : Int) := by omega
            have hgp : t0 ≤ p := by omega
            have hpm : p ≤ 4294967296 := by omega
            have hpq : p < q := by omega
            have HINV := Lib.hid hinv2
            have hcs : (4294967296 ≤ q) ∨ (¬ 4294967296 ≤ q ∧ 4294967296 * r + l0 < P) := by omega
            have HCS := Lib.hid hcs
            clear hc hp htg hinv hinv2 hcs HCC
            by_cases hr2 : 4294967296 ≤ r + y1
            · have hot := Div64M.out_step (D := 4294967296) (y1 := y1) (y0 := y0) (u := u2) (d := l0) (q := p) (r := r + y1) HYP.out (by omega) HINV.out (by rw [← HYY.out, ht0]; omega) (by omega) hr2
              rw [← HYY.out, ht0] at hot
              have hr2I : (4294967296 : Int) ≤ (r : Int) + (y1 : Int) := by omega
              have HOT := Lib.hid hot
              clear hr2 hot
              rcases HCS.out with hc | ⟨hc3, hc⟩
              · have hc' : (4294967296 : Int) ≤ (q : Int) := by omega
                clear hc hPl
                go_wp2_with fail
                go_meet
                exact ⟨by rw [HOT.out], rfl⟩
              · have hPl' := hPl (by omega)
                have hcI : 4294967296 * (r : Int) + (l0 : Int) < (P : Int) := by omega
                have hc3I : ¬ (4294967296 : Int) ≤ (q : Int) := by omega
                clear hc hc3 hPl
                go_wp2_with fail
                go_meet
                exact ⟨by rw [HOT.out], rfl⟩
            · have hr2I : ¬ (4294967296 : Int) ≤ (r : Int) + (y1 : Int) := by omega
              have HR2 := Lib.hid hr2
              clear hr2
              rcases HCS.out with hc | ⟨hc3, hc⟩
              · have hc' : (4294967296 : Int) ≤ (q : Int) := by omega
                clear hc hPl
                go_wp2_with fail
                exact ⟨⟨p, r + y1, rfl, by simp, HINV.out, hgp, by omega, by have := HR2.out; omega, trivial⟩, by simp only [intOf]; omega⟩
              · have hPl' := hPl (by omega)
                have hcI : 4294967296 * (r : Int) + (l0 : Int) < (P : Int) := by omega
                have hc3I : ¬ (4294967296 : Int) ≤ (q : Int) := by omega
                clear hc hc3 hPl
                go_wp2_with fail
                exact ⟨⟨p, r + y1, rfl, by simp, HINV.out, hgp, by omega, by have := HR2.out; omega, trivial⟩, by simp only [intOf]; omega⟩
          · have hot := Div64M.out_cond (D := 4294967296) (y1 := y1) (y0 := y0) (u := u2) (d := l0) (q := q) (r := r) HYP.out hinv (by rw [← HYY.out, ht0]; exact hge) (by rw [hP]; omega)
            rw [← HYY.out, ht0] at hot
            subst hot
            have hPl' := hPl (by omega)
            have hc1 : ¬ ((4294967296 : Int) ≤ (q : Int)) := by omega
            have hc2 : ¬ (4294967296 * (r : Int) + (l0 : Int) < (P : Int)) := by omega
            clear hc
            go_wp2_with fail
            go_meet
            exact ⟨rfl, rfl⟩
      case rest =>
        obtain ⟨rfl, rfl⟩ := hcut
        go_wp2_with fail
        refine ⟨rfl, .tuple #[.int .u64 ((t1 * 4294967296 + t0 : Nat) : Int), .int .u64 (rr : Int)], by simp [results, go_sem], rfl, Below.refl _ _⟩
end Go.Proofs.YtmocmkfpblakbaaDoor
