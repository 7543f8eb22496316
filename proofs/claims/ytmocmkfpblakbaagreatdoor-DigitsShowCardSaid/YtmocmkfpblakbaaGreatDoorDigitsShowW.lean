/- The walk of DigitsShow. Condition: the number and the numbers lie as they say; the library's tables lie. -/
import Derived.Test.YtmocmkfpblakbaaGreatDoorLaw4B
import Derived.Test.YtmocmkfpblakbaaGreatDoorDigitsBackW
import Derived.Test.YtmocmkfpblakbaaGreatDoorFlat
namespace Go.Proofs.YtmocmkfpblakbaaGreatDoor
open Go.RowKit WordsM DecM

set_option maxRecDepth 100000 in
set_option maxHeartbeats 8000000 in
theorem walkDigitsShow (neg : Bool) (exp : Int) (a : Option Addr) (n c : Nat) (ks : List Nat) (b : Option Addr) (m d : Nat) (ls : List Nat) (w : World) (he : -9223372036854775808 ≤ exp) (he2 : exp ≤ 9223372036854775807) (hW : WordsIn w a n c ks) (hln : ls.length = m) (hn : m ≤ 9223372036854775807) (hrd : RdU w w.heap.size b ls) (hx : ∀ x ∈ ls, x < 18446744073709551616) (hl : Laid w) :
    Calls Tryz.prog 3 #[.agg #[.bool neg, .int .i64 exp, .slice a n c], .slice b m d] w fun e w' => e = .returned (.bool true) ∧ Below w.heap.size w w' := by
  have hB0 : Below w.heap.size w (w.alloc (.cells #[.bool neg, .int .i64 exp, .slice a n c] 24)) := (Below.refl _ _).alloc (Nat.le_refl _) _
  have hN := NumBox.new w (.bool neg) (.int .i64 exp) (.slice a n c) 24
  have hl0 := box_lt w (.cells #[.bool neg, .int .i64 exp, .slice a n c] 24)
  have hW0 := hW.step hB0
  have hL0 := hl.below hB0
  have hr0 := (RdI.below (K := .u64) hrd hB0).more hB0.size
  have hcm := Nat.le_trans hW.cap hW.most
  obtain ⟨wa, hwa⟩ : ∃ wa, w.alloc (.cells #[.bool neg, .int .i64 exp, .slice a n c] 24) = wa := ⟨_, rfl⟩
  rw [hwa] at hB0 hN hl0 hW0 hL0 hr0
  have hk := known_any wa hL0
  have HL := Lib.hid (fun W (hb : Below wa.heap.size wa W) => hL0.below hb)
  have HRD := Lib.hid (And.intro hr0 hx)
  have HK := Lib.hid hk
  have HN := Lib.hid (fun W (hb : Below wa.heap.size wa W) => hN.step hb hl0)
  have HW := Lib.hid hW0
  have HB0 := Lib.hid hB0
  have HWA := Lib.hid hwa
  clear hk hl hrd hx hB0 hN hl0 hW0 hL0 hr0 hW hwa
  by_cases h70 : n ≤ 70
  rotate_left
  · have h70' : (70 : Int) < (n : Int) := by omega
    go_enter Tryz.func3, Tryz.ntmps3
    go_upto_region 1 with fail
    rw [HWA.out]
    clear HWA
    go_wp2_with (refine HK.out.mono ?_; rintro e w1 ⟨rfl, hb1⟩; obtain ⟨q0, q1, q2, _, _, _⟩ := HN.out _ hb1; have HB1 := Lib.hid hb1; clear hb1)
    go_ret
    exact ⟨rfl, Below.next0 HB0.out HB1.out⟩
  have h70' : ¬ (70 : Int) < (n : Int) := by omega
  go_enter Tryz.func3, Tryz.ntmps3
  go_upto_region 1 with fail
  rw [HWA.out]
  clear HWA
  go_wp2_with (first
    | (go_at_call_of 7 b; refine (deckof_any b m d ls w1 hln hn ((RdI.below (K := .u64) HRD.out.1 HB1.out).more HB1.out.size) HRD.out.2).mono ?_; rintro e w2 ⟨rfl, hd, hb2⟩; have HB2 := Lib.hid (And.intro hd hb2); clear hd hb2)
    | (refine (decknum_any w1.heap.size 0 w2 HB2.out.1 (by decide)).mono ?_; rintro e w3 ⟨⟨neg1, ex1, a1, n1, c1, L, rfl, hnum, hW3⟩, ht3⟩; have hb3 := Below.turn HB2.out.2 ht3 HB2.out.2.size (fun k e => by omega);
       have HB3 := Lib.hid (And.intro hW3 (And.intro hnum (Below.next0 HB1.out hb3))); clear hW3 hnum hb3 ht3)
    | (refine HK.out.mono ?_; rintro e w1 ⟨rfl, hb1⟩; obtain ⟨q0, q1, q2, _, _, _⟩ := HN.out _ hb1; have HB1 := Lib.hid hb1; clear hb1))
  have hba := (Below.refl w3.heap.size w3).alloc (Nat.le_refl _) (.cells #[.bool neg1, .int .i64 ex1, .slice a1 n1 c1] 24)
  have hNy := NumBox.new w3 (.bool neg1) (.int .i64 ex1) (.slice a1 n1 c1) 24
  have hly := box_lt w3 (.cells #[.bool neg1, .int .i64 ex1, .slice a1 n1 c1] 24)
  have hex := HB3.out.2.1.exp
  have hbv := Below.next0 HB3.out.2.2 hba
  have hWy := HB3.out.1.step hba
  obtain ⟨v, hv⟩ : ∃ v, w3.alloc (.cells #[.bool neg1, .int .i64 ex1, .slice a1 n1 c1] 24) = v := ⟨_, rfl⟩
  rw [hv] at hba hNy hly hbv hWy ⊢
  have HX := Lib.hid (fun W (hb : Below v.heap.size v W) => HN.out W (Below.next0 hbv hb))
  have HY := Lib.hid (fun W (hb : Below v.heap.size v W) => hNy.step hb hly)
  obtain ⟨sx, hsx⟩ : ∃ sx, sv (textOut neg exp ks) = .string sx := ⟨_, rfl⟩
  obtain ⟨sy, hsy⟩ : ∃ sy, sv (textOut neg1 ex1 L) = .string sy := ⟨_, rfl⟩
  have H1 := Lib.hid (fun W (hb : Below v.heap.size v W) => text_any neg exp a n c ks W ((HW.out.step hbv).step hb) he he2 (HL.out _ (Below.next0 hbv hb)).tabs)
  have H2 := Lib.hid (fun W (hb : Below v.heap.size v W) => reftext_any neg exp a n c ks W ((HW.out.step hbv).step hb) he he2)
  have H3 := Lib.hid (fun W (hb : Below v.heap.size v W) => text_any neg1 ex1 a1 n1 c1 L W (hWy.step hb) (by omega) (by omega) (HL.out _ (Below.next0 hbv hb)).tabs)
  have H4 := Lib.hid (fun W (hb : Below v.heap.size v W) => reftext_any neg1 ex1 a1 n1 c1 L W (hWy.step hb) (by omega) (by omega))
  rw [hsx] at H1 H2
  rw [hsy] at H3 H4
  have HBV := Lib.hid (Below.next0 HB0.out hbv)
  clear hba hNy hly hbv hWy hv hex hsx hsy
  refine wp_region_flat (by kernel_rfl) (fun W => Below v.heap.size v W) (fun _ _ h h' => Below.next0 h h')
    (detV [.agg #[.bool neg, .int .i64 exp, .slice a n c], .string sx, .agg #[.bool neg, .int .i64 exp, .slice a n c], .string sx, .bool true, .bool true, .agg #[.bool neg1, .int .i64 ex1, .slice a1 n1 c1], .string sy, .agg #[.bool neg1, .int .i64 ex1, .slice a1 n1 c1], .string sy, .bool true, .bool true, .bool true] (fun _ => none)) (detV_grow fun i φ h => by cases h) (by kernel_rfl) (below_dr (Below.refl _ _)) ?_ ?_
  · skip
    refine ⟨fun A W hW hag hdep => ?_, ?_⟩
    · have e2 : A.tmps[2]?.getD undef = .pointer (some ⟨w.heap.size, 0, none⟩) := evalD (hag.keep (t := 2) (by kernel_rfl) rfl)
      refine flat_on rfl ?_
      obtain ⟨k0, k1, k2, _, _, _⟩ := (HX.out W hW)
      refine flat_run (u := .agg #[.bool neg, .int .i64 exp, .slice a n c]) ?_ ((detV_at rfl).2 rfl)
      simp [go_sem, e2, k0, k1, k2]
    refine ⟨fun A W hW hag hdep => ?_, ?_⟩
    · have e15 : A.tmps[15]?.getD undef = .agg #[.bool neg, .int .i64 exp, .slice a n c] := evalD ((detV_at rfl).1 (hdep 0 (by decide)))
      refine flat_on rfl ?_
      refine flat_call (f := 9) (args := #[.agg #[.bool neg, .int .i64 exp, .slice a n c]]) (by simp [go_sem, e15]) ((H1.out W hW).mono ?_)
      rintro e W' ⟨rfl, hb4⟩
      exact ⟨_, rfl, hb4, (detV_at rfl).2 rfl⟩
    refine ⟨fun A W hW hag hdep => ?_, ?_⟩
    · have e2 : A.tmps[2]?.getD undef = .pointer (some ⟨w.heap.size, 0, none⟩) := evalD (hag.keep (t := 2) (by kernel_rfl) rfl)
      refine flat_on rfl ?_
      obtain ⟨k0, k1, k2, _, _, _⟩ := (HX.out W hW)
      refine flat_run (u := .agg #[.bool neg, .int .i64 exp, .slice a n c]) ?_ ((detV_at rfl).2 rfl)
      simp [go_sem, e2, k0, k1, k2]
    refine ⟨fun A W hW hag hdep => ?_, ?_⟩
    · have e17 : A.tmps[17]?.getD undef = .agg #[.bool neg, .int .i64 exp, .slice a n c] := evalD ((detV_at rfl).1 (hdep 2 (by decide)))
      refine flat_on rfl ?_
      refine flat_call (f := 10) (args := #[.agg #[.bool neg, .int .i64 exp, .slice a n c]]) (by simp [go_sem, e17]) ((H2.out W hW).mono ?_)
      rintro e W' ⟨rfl, hb4⟩
      exact ⟨_, rfl, hb4, (detV_at rfl).2 rfl⟩
    refine ⟨fun A W hW hag hdep => ?_, ?_⟩
    · have e16 : A.tmps[16]?.getD undef = .string sx := evalD ((detV_at rfl).1 (hdep 1 (by decide)))
      have e18 : A.tmps[18]?.getD undef = .string sx := evalD ((detV_at rfl).1 (hdep 3 (by decide)))
      refine flat_on rfl ?_
      refine flat_run (u := .bool true) ?_ ((detV_at rfl).2 rfl)
      simp [go_sem, e16, e18]
    refine ⟨fun A W hW hag hdep => ?_, ?_⟩
    · have e19 : A.tmps[19]?.getD undef = .bool true := evalD ((detV_at rfl).1 (hdep 4 (by decide)))
      refine flat_on rfl ?_
      refine flat_run (u := .bool true) ?_ ((detV_at rfl).2 rfl)
      simp [go_sem, e19]
    refine ⟨fun A W hW hag hdep => ?_, ?_⟩
    · have e5 : A.tmps[5]?.getD undef = .pointer (some ⟨w3.heap.size, 0, none⟩) := evalD (hag.keep (t := 5) (by kernel_rfl) rfl)
      have eg : A.eval (.tmp 20) = .bool true := (detV_at rfl).1 (hdep 5 (by decide))
      refine flat_go (t := 20) rfl rfl eg ?_
      obtain ⟨k0, k1, k2, _, _, _⟩ := (HY.out W hW)
      refine flat_run (u := .agg #[.bool neg1, .int .i64 ex1, .slice a1 n1 c1]) ?_ ((detV_at rfl).2 rfl)
      simp [go_sem, e5, k0, k1, k2]
    refine ⟨fun A W hW hag hdep => ?_, ?_⟩
    · have e21 : A.tmps[21]?.getD undef = .agg #[.bool neg1, .int .i64 ex1, .slice a1 n1 c1] := evalD ((detV_at rfl).1 (hdep 6 (by decide)))
      have eg : A.eval (.tmp 20) = .bool true := (detV_at rfl).1 (hdep 5 (by decide))
      refine flat_go (t := 20) rfl rfl eg ?_
      refine flat_call (f := 9) (args := #[.agg #[.bool neg1, .int .i64 ex1, .slice a1 n1 c1]]) (by simp [go_sem, e21]) ((H3.out W hW).mono ?_)
      rintro e W' ⟨rfl, hb4⟩
      exact ⟨_, rfl, hb4, (detV_at rfl).2 rfl⟩
    refine ⟨fun A W hW hag hdep => ?_, ?_⟩
    · have e5 : A.tmps[5]?.getD undef = .pointer (some ⟨w3.heap.size, 0, none⟩) := evalD (hag.keep (t := 5) (by kernel_rfl) rfl)
      have eg : A.eval (.tmp 20) = .bool true := (detV_at rfl).1 (hdep 5 (by decide))
      refine flat_go (t := 20) rfl rfl eg ?_
      obtain ⟨k0, k1, k2, _, _, _⟩ := (HY.out W hW)
      refine flat_run (u := .agg #[.bool neg1, .int .i64 ex1, .slice a1 n1 c1]) ?_ ((detV_at rfl).2 rfl)
      simp [go_sem, e5, k0, k1, k2]
    refine ⟨fun A W hW hag hdep => ?_, ?_⟩
    · have e23 : A.tmps[23]?.getD undef = .agg #[.bool neg1, .int .i64 ex1, .slice a1 n1 c1] := evalD ((detV_at rfl).1 (hdep 8 (by decide)))
      have eg : A.eval (.tmp 20) = .bool true := (detV_at rfl).1 (hdep 5 (by decide))
      refine flat_go (t := 20) rfl rfl eg ?_
      refine flat_call (f := 10) (args := #[.agg #[.bool neg1, .int .i64 ex1, .slice a1 n1 c1]]) (by simp [go_sem, e23]) ((H4.out W hW).mono ?_)
      rintro e W' ⟨rfl, hb4⟩
      exact ⟨_, rfl, hb4, (detV_at rfl).2 rfl⟩
    refine ⟨fun A W hW hag hdep => ?_, ?_⟩
    · have e22 : A.tmps[22]?.getD undef = .string sy := evalD ((detV_at rfl).1 (hdep 7 (by decide)))
      have e24 : A.tmps[24]?.getD undef = .string sy := evalD ((detV_at rfl).1 (hdep 9 (by decide)))
      have eg : A.eval (.tmp 20) = .bool true := (detV_at rfl).1 (hdep 5 (by decide))
      refine flat_go (t := 20) rfl rfl eg ?_
      refine flat_run (u := .bool true) ?_ ((detV_at rfl).2 rfl)
      simp [go_sem, e22, e24]
    refine ⟨fun A W hW hag hdep => ?_, ?_⟩
    · have e20 : A.tmps[20]?.getD undef = .bool true := evalD ((detV_at rfl).1 (hdep 5 (by decide)))
      have e25 : A.tmps[25]?.getD undef = .bool true := evalD ((detV_at rfl).1 (hdep 10 (by decide)))
      refine flat_on rfl ?_
      refine flat_run (u := .bool true) ?_ ((detV_at rfl).2 rfl)
      simp [go_sem, e20, e25]
    refine ⟨fun A W hW hag hdep => ?_, ?_⟩
    · have e26 : A.tmps[26]?.getD undef = .bool true := evalD ((detV_at rfl).1 (hdep 11 (by decide)))
      refine flat_on rfl ?_
      refine flat_run (u := .bool true) ?_ ((detV_at rfl).2 rfl)
      simp [go_sem, e26]
    exact trivial
  intro vs W1 hW1 hvs
  have v12 : vs 12 = _ := (detV_at rfl).1 (hvs 12 (by decide))
  simp only [putAll, Act.put, List.setIfInBounds_toArray, List.set_cons_zero, List.set_cons_succ]
  rw [v12]
  have HW1 := Lib.hid (show Below v.heap.size v W1 from hW1)
  clear hW1 hvs v12
  go_wp2_with fail
  go_ret
  exact ⟨rfl, Below.next0 HBV.out HW1.out⟩
end Go.Proofs.YtmocmkfpblakbaaGreatDoor
