/- The walk of the words' Add. Condition: the arguments lie as slices of words, not too long. -/
import Derived.Test.YtmocmkfpblakbaaDoorNatA
import Derived.Deep.CutBlock
import Derived.Deep.DeepCutAuto
import Derived.Deep.RegionLaw
import Derived.Shelf.Spec.BitsCarry
import Derived.WalkMore
namespace Go.Proofs.YtmocmkfpblakbaaDoor
open Go.RowKit WordsM

theorem add64_run (x y c : Nat) (hx : x < 18446744073709551616) (hy : y < 18446744073709551616) (hc : c ≤ 1) (w : World) :
    (callFunc 50 #[.int .u64 x, .int .u64 y, .int .u64 c]).run Tryd.prog w =
      .ok (.value (.tuple #[.int .u64 (((x + y + c) % 18446744073709551616 : Nat) : Int), .int .u64 (((x + y + c) / 18446744073709551616 : Nat) : Int)])) w := by
  rw [run_callFunc_extern Tryd.func50 (by kernel_rfl) (by kernel_rfl) (by kernel_rfl) (e := add64Entry) (by kernel_rfl), run_add64 x y c (by omega) (by omega) (by omega) (by omega)]
  simp only [Result.andThen]
  congr 5 <;> omega
theorem info_u64 : (Tryd.prog.info? 41).map (fun i => (i.zero, i.size, i.bytes)) = some (some (.int .u64 0), 1, 8) := by kernel_rfl
theorem size_u64' : (Tryd.prog.info? 41).map (·.size) = some 1 := by kernel_rfl
/-- a number's right words, in new memory or old -/
def NumOut (w : World) (v : Nat) (e : Ending) (w' : World) : Prop := ∃ a n c, e = .returned (.slice a n c) ∧ WordsIn w' a n c (dig (2 ^ 64) v) ∧ Below w.heap.size w w'
set_option maxRecDepth 100000 in
set_option maxHeartbeats 2000000 in
theorem natadd_any (a : Option Addr) (n c : Nat) (ls : List Nat) (b : Option Addr) (m d : Nat) (ks : List Nat) (w : World) (h1 : WordsIn w a n c ls) (h2 : WordsIn w b m d ks) (hn : n ≤ 100000) (hm : m ≤ 100000) :
    Calls Tryd.prog 32 #[.slice a n c, .slice b m d] w (NumOut w (val (2 ^ 64) ls + val (2 ^ 64) ks)) := by
  have hl1 := h1.len
  have hl2 := h2.len
  have H1 := Lib.hid h1
  have H2 := Lib.hid h2
  clear h1 h2
  go_enter Tryd.func32, Tryd.ntmps32
  go_wp2_with fail
  go_step3
  go_upto_if 17 with (first
    | (go_at_call_of 36 a; refine (cut_any a n c ls _ H1.out).mono ?_; rintro e w1 ⟨rfl, hb1⟩; have HB1 := Lib.hid hb1; clear hb1)
    | (go_at_call_of 36 b; refine (cut_any b m d ks _ (H2.out.step HB1.out)).mono ?_; rintro e w2 ⟨rfl, hb2⟩; have HB2 := Lib.hid hb2; clear hb2))
  have HA := Lib.hid ((H1.out.step HB1.out).step HB2.out).trim
  have HK := Lib.hid ((H2.out.step HB1.out).step HB2.out).trim
  have HB := Lib.hid (Below.next0 HB1.out HB2.out)
  have ht1 := trim_len ls
  have ht2 := trim_len ks
  go_cut [0, 1] (fun x y wx => ∃ a' n' c' A b' m' d' K, x = .slice a' n' c' ∧ y = .slice b' m' d' ∧ WordsIn wx a' n' c' A ∧ WordsIn wx b' m' d' K ∧ m' ≤ n' ∧ n' ≤ 100000 ∧ val (2 ^ 64) A + val (2 ^ 64) K = val (2 ^ 64) ls + val (2 ^ 64) ks ∧ Below w.heap.size w wx)
  case first =>
    by_cases hlt : (trimL ls).length < (trimL ks).length
    · have hlt' : ((trimL ls).length : Int) < ((trimL ks).length : Int) := by omega
      go_wp2_with fail
      go_meet
      exact ⟨_, _, _, _, _, _, _, _, rfl, rfl, HK.out, HA.out, by omega, by omega, by rw [val_trim, val_trim, Nat.add_comm], HB.out⟩
    · have hlt' : ¬ (((trimL ls).length : Int) < ((trimL ks).length : Int)) := by omega
      go_wp2_with fail
      go_meet
      exact ⟨_, _, _, _, _, _, _, _, rfl, rfl, HA.out, HK.out, by omega, by omega, by rw [val_trim, val_trim], HB.out⟩
  case rest =>
    obtain ⟨p, N, pc, A, q, M, qc, K, rfl, rfl, hA, hK, hMN, hN, hv, hb⟩ := hcut
    have hAl := hA.len
    have hKl := hK.len
    have HA2 := Lib.hid hA
    have HK2 := Lib.hid hK
    have HBC := Lib.hid hb
    have HV := Lib.hid hv
    clear hA hK hb hv HA HK HB HB1 HB2 H1 H2 ht1 ht2
    have hmk := run_make_row' (P := Tryd.prog) 26 41 (.int .u64 0) 8 Tryd.underlying26 info_u64 rfl .i64 .i64 (N + 1) (by omega) (by omega)
    rw [show ((N + 1 : Nat) : Int) = (N : Int) + 1 by omega] at hmk
    rw [made_zeros'] at hmk
    have hB1 : Below wc.heap.size wc (wc.alloc (.cells (Array.replicate (N + 1) (nv .u64 0)) 41)) := (Below.refl _ _).alloc (Nat.le_refl _) _
    have hA1 := Arr.zeros wc 41 .u64 (N + 1)
    have HB1 := Lib.hid (And.intro hB1 (And.intro hA1 ((HA2.out.rd).below hB1)))
    clear hB1 hA1
    go_wp2_with (refine wpList_copy_nums rfl (.tmp 24) (.tmp 25) 26 26 rfl 41 Tryd.underlying26 size_u64' 41 .u64 wc.heap.size (N + 1) (N + 1) _ HB1.out.2.1 p N pc _ A rfl rfl HB1.out.2.2 hAl (by omega) (by simp) ?_; intro w3 hA3 ht3)
    have hd : (List.replicate (N + 1) 0).drop N = [0] := by simp
    rw [hd] at hA3
    have hB3 : Below wc.heap.size wc w3 := Below.turn HB1.out.1 ht3 HB1.out.1.size (fun k e => by have : k = wc.heap.size := e; omega)
    have HS := Lib.hid (And.intro hA3 hB3)
    clear hA3 hB3 ht3 hd hmk
    go_loopw [6, 29] (fun cv iv wr => ∃ (i cr : Nat) (L : List Nat), cv = .int .u64 (cr : Int) ∧ iv = .int .i64 (i : Int) ∧ i ≤ M ∧ cr ≤ 1 ∧ Arr 41 .u64 wr wc.heap.size L ∧ L.length = N + 1 ∧ Low (2 ^ 64) L ∧ val (2 ^ 64) L + cr * (2 ^ 64) ^ i = val (2 ^ 64) A + val (2 ^ 64) (K.take i) ∧ Below wc.heap.size wc wr) (fun _ iv _ => M - (intOf iv).toNat)
    case atStart =>
      refine ⟨0, 0, A ++ [0], rfl, rfl, Nat.zero_le _, Nat.zero_le _, HS.out.1, by simp [hAl], fun x hx => ?_, ?_, HS.out.2⟩
      · rcases List.mem_append.1 hx with hx | hx
        · exact HA2.out.low x hx
        · rw [List.mem_singleton.1 hx]; decide
      · rw [val_snoc]; simp [val]
    case round =>
      obtain ⟨i, cr, L, rfl, rfl, hi, hcr, hL, hLl, hLow, hval, hbw⟩ := hrel
      by_cases hlt : i < M
      · have hlt' : (i : Int) < (M : Int) := by omega
        obtain ⟨x, hx⟩ : ∃ x, L[i]? = some x := ⟨_, List.getElem?_eq_getElem (by omega)⟩
        obtain ⟨y, hy⟩ : ∃ y, K[i]? = some y := ⟨_, List.getElem?_eq_getElem (by omega)⟩
        obtain ⟨b2, o2, rfl, hb2, hcy⟩ := (HK2.out.rd.below hbw).at_ hy
        have hxl : x < 18446744073709551616 := hLow x (List.mem_of_getElem? hx)
        have hyl : y < 18446744073709551616 := HK2.out.low y (List.mem_of_getElem? hy)
        have hadd := fun W => add64_run x y cr hxl hyl hcr W
        obtain ⟨z, hz⟩ : ∃ z, (x + y + cr) % 18446744073709551616 = z := ⟨_, rfl⟩
        obtain ⟨c2, hc2⟩ : ∃ z, (x + y + cr) / 18446744073709551616 = z := ⟨_, rfl⟩
        have hc2l : c2 ≤ 1 := by omega
        have hzl : z < 18446744073709551616 := by omega
        have hstep := add_step (B := 2 ^ 64) (b := y) (c := cr) hx hval
        rw [show (x + y + cr) % 2 ^ 64 = z from hz, show (x + y + cr) / 2 ^ 64 = c2 from hc2] at hstep
        rw [hz, hc2] at hadd
        have HST := Lib.hid hstep
        clear hz hc2 hstep
        have cx : wr.drew.cell? ⟨wc.heap.size, i, none⟩ = some (.int .u64 (x : Int)) := hL.cell hx
        have cy : wr.drew.cell? ⟨b2, o2 + i, none⟩ = some (.int .u64 (y : Int)) := hcy
        have fx : wr.drew.frozen? ⟨wc.heap.size, i, none⟩ = false := hL.frozen i
        have hiN : (i : Int) < (N : Int) + 1 := by omega
        have HH := Lib.hid (And.intro hL (And.intro hLow (And.intro hval (And.intro hbw (And.intro hx hy)))))
        clear hL hLow hval hbw hx hy hcy
        go_wp2_with fail
        go_region_law (fail)
        all_goals go_wp2_with fail
        all_goals
          obtain ⟨hL, hLow, hval, hbw, hx, hy⟩ := HH.out
          refine ⟨⟨i + 1, c2, L.set i z, rfl, by simp, by omega, hc2l, hL.set i z, by simp [hLl], low_set hLow hzl, ?_, (hbw.setCell (p := ⟨wc.heap.size, i, none⟩) (Nat.le_refl _) _).drew⟩, by simp only [intOf]; omega⟩
          rw [val_take_snoc K i y hy, HST.out, Nat.mul_comm y]
          omega
      · obtain rfl : i = M := by omega
        have hlt' : ¬ ((i : Int) < (i : Int)) := by omega
        rw [List.take_of_length_le (by omega)] at hval
        have HH := Lib.hid (And.intro hL (And.intro hLow (And.intro hval hbw)))
        clear hL hLow hval hbw HS
        go_wp2_with fail
        go_step3
        go_wp2_with fail
        go_loopw [6, 8] (fun cv iv wr => ∃ (j cr : Nat) (L : List Nat), cv = .int .u64 (cr : Int) ∧ iv = .int .i64 (j : Int) ∧ j ≤ N + 1 ∧ cr ≤ 1 ∧ Arr 41 .u64 wr wc.heap.size L ∧ L.length = N + 1 ∧ Low (2 ^ 64) L ∧ val (2 ^ 64) L + cr * (2 ^ 64) ^ j = val (2 ^ 64) A + val (2 ^ 64) K ∧ Below wc.heap.size wc wr) (fun _ iv _ => N + 1 - (intOf iv).toNat)
        case atStart => exact ⟨i, cr, L, rfl, rfl, by omega, hcr, HH.out.1, hLl, HH.out.2.1, HH.out.2.2.1, HH.out.2.2.2⟩
        case round =>
          clear hLl hcr HH
          obtain ⟨j, cr, L, rfl, rfl, hj, hcr, hL, hLl, hLow, hval, hbw⟩ := hrel
          by_cases hlt : j < N + 1
          · have hlt' : (j : Int) < (N : Int) + 1 := by omega
            by_cases hc0 : cr = 0
            · subst hc0
              rw [Nat.zero_mul, Nat.add_zero] at hval
              have HH2 := Lib.hid (And.intro hL (And.intro hLow (And.intro hval hbw)))
              clear hL hLow hval hbw
              have hvl : val (2 ^ 64) L = val (2 ^ 64) ls + val (2 ^ 64) ks := by have := HH2.out.2.2.1; have := HV.out; omega
              have hW : WordsIn wr (some ⟨wc.heap.size, 0, none⟩) (N + 1) (N + 1) L := ⟨hLl, Nat.le_refl _, by omega, HH2.out.2.1, HH2.out.1.rd⟩
              have hbq : Below w.heap.size w wr := Below.next0 HBC.out HH2.out.2.2.2
              have hdig : trimL L = dig (2 ^ 64) (val (2 ^ 64) ls + val (2 ^ 64) ks) := by rw [trim_dig (by decide) HH2.out.2.1, hvl]
              have HE := Lib.hid (And.intro hW (And.intro hbq hdig))
              clear hvl hW hbq hdig
              go_wp2_with (refine (cut_any _ _ _ _ _ HE.out.1).mono ?_; rintro e w5 ⟨rfl, hb5⟩; have HB5 := Lib.hid hb5; clear hb5)
              rw [Exit.noGoto_ret]
              go_ret
              have hout := (HE.out.1.step HB5.out).trim
              rw [HE.out.2.2] at hout ⊢
              exact ⟨_, _, _, rfl, hout, Below.next0 HE.out.2.1 HB5.out⟩
            · obtain rfl : cr = 1 := by omega
              obtain ⟨x, hx⟩ : ∃ x, L[j]? = some x := ⟨_, List.getElem?_eq_getElem (by omega)⟩
              have hxl : x < 18446744073709551616 := hLow x (List.mem_of_getElem? hx)
              have hadd : ∀ W, (callFunc 50 #[.int .u64 (x : Int), .int .u64 0, .int .u64 1]).run Tryd.prog W = .ok (.value (.tuple #[.int .u64 (((x + 0 + 1) % 18446744073709551616 : Nat) : Int), .int .u64 (((x + 0 + 1) / 18446744073709551616 : Nat) : Int)])) W := fun W => add64_run x 0 1 hxl (by decide) (by decide) W
              obtain ⟨z, hz⟩ : ∃ z, (x + 0 + 1) % 18446744073709551616 = z := ⟨_, rfl⟩
              obtain ⟨c2, hc2⟩ : ∃ z, (x + 0 + 1) / 18446744073709551616 = z := ⟨_, rfl⟩
              have hc2l : c2 ≤ 1 := by omega
              have hzl : z < 18446744073709551616 := by omega
              have hstep := add_step (B := 2 ^ 64) (b := 0) (c := 1) hx hval
              rw [show (x + 0 + 1) % 2 ^ 64 = z from hz, show (x + 0 + 1) / 2 ^ 64 = c2 from hc2, Nat.zero_mul, Nat.add_zero] at hstep
              rw [hz, hc2] at hadd
              have cx : wr.cell? ⟨wc.heap.size, j, none⟩ = some (.int .u64 (x : Int)) := hL.cell hx
              have fx : wr.frozen? ⟨wc.heap.size, j, none⟩ = false := hL.frozen j
              have HST := Lib.hid (And.intro hstep (And.intro hL (And.intro hLow hbw)))
              clear hz hc2 hstep hL hLow hval hbw hx
              go_wp2_with fail
              exact ⟨⟨j + 1, c2, L.set j z, rfl, by simp, by omega, hc2l, HST.out.2.1.set j z, by simp [hLl], low_set HST.out.2.2.1 hzl, HST.out.1, HST.out.2.2.2.setCell (p := ⟨wc.heap.size, j, none⟩) (Nat.le_refl _) _⟩, by simp only [intOf]; omega⟩
          · obtain rfl : j = N + 1 := by omega
            have hlt' : ¬ (((N + 1 : Nat) : Int) < (N : Int) + 1) := by omega
            have hc0 : cr = 0 := by
              have h1 := val_lt (B := 2 ^ 64) (by decide) A HA2.out.low
              have h2 := val_lt (B := 2 ^ 64) (by decide) K HK2.out.low
              have h3 : (2 ^ 64) ^ K.length ≤ (2 ^ 64) ^ A.length := Nat.pow_le_pow_right (by decide) (by omega)
              rw [hAl] at h1 h3
              rw [show (2 ^ 64) ^ (N + 1) = (2 ^ 64) ^ N * 2 ^ 64 from rfl] at hval
              rcases Nat.lt_or_ge cr 1 with h | h
              · omega
              · have h4 : 1 * ((2 ^ 64) ^ N * 2 ^ 64) ≤ cr * ((2 ^ 64) ^ N * 2 ^ 64) := Nat.mul_le_mul_right _ h
                generalize (2 ^ 64) ^ N = P at *
                generalize (2 ^ 64) ^ K.length = R at *
                omega
            subst hc0
            rw [Nat.zero_mul, Nat.add_zero] at hval
            have HH2 := Lib.hid (And.intro hL (And.intro hLow (And.intro hval hbw)))
            clear hL hLow hval hbw
            have hvl : val (2 ^ 64) L = val (2 ^ 64) ls + val (2 ^ 64) ks := by have := HH2.out.2.2.1; have := HV.out; omega
            have hW : WordsIn wr (some ⟨wc.heap.size, 0, none⟩) (N + 1) (N + 1) L := ⟨hLl, Nat.le_refl _, by omega, HH2.out.2.1, HH2.out.1.rd⟩
            have hbq : Below w.heap.size w wr := Below.next0 HBC.out HH2.out.2.2.2
            have hdig : trimL L = dig (2 ^ 64) (val (2 ^ 64) ls + val (2 ^ 64) ks) := by rw [trim_dig (by decide) HH2.out.2.1, hvl]
            have HE := Lib.hid (And.intro hW (And.intro hbq hdig))
            clear hvl hW hbq hdig
            go_wp2_with (refine (cut_any _ _ _ _ _ HE.out.1).mono ?_; rintro e w5 ⟨rfl, hb5⟩; have HB5 := Lib.hid hb5; clear hb5)
            rw [Exit.noGoto_ret]
            go_ret
            have hout := (HE.out.1.step HB5.out).trim
            rw [HE.out.2.2] at hout ⊢
            exact ⟨_, _, _, rfl, hout, Below.next0 HE.out.2.1 HB5.out⟩
end Go.Proofs.YtmocmkfpblakbaaDoor
