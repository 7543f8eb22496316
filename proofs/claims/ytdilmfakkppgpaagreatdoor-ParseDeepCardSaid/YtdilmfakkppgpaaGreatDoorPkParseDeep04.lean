/- Part 4 of the proof of LawParseDeep: NatI, NatM, RefA, RefE, Box3, NumA, RefH, NatS, NumB. Condition: as each theorem says; none at the end. -/
import Derived.BigQuiet
import Derived.Lib.ItoaNum
import Derived.Deep.LoopGhost
import Derived.Deep.OwnRows
import Derived.Deep.RegionHeldLaw
import Derived.Deep.DrawnRows
import Derived.Deep.CutBlock
import Derived.Deep.DeepCutAuto
import Derived.Laws.BitsAllLaws
import Derived.Test.YtdilmfakkppgpaaGreatDoorPkParseDeep01
import Derived.Test.YtdilmfakkppgpaaGreatDoorPkParseDeep03
namespace Go.Proofs.YtdilmfakkppgpaaGreatDoor
open Go.RowKit WordsM
theorem isnan_u (x : Nat) (w : World) : Calls Tryz.prog 205 #[.int .u64 (x : Int)] w fun e w' => e = .returned (.bool false) ∧ w = w' := by
  go_enter Tryz.func205, Tryz.ntmps205
  go_wp2_with fail
  go_ret
  exact ⟨by simp, rfl⟩
theorem compare_u (x y : Nat) (w : World) : Calls Tryz.prog 173 #[.int .u64 (x : Int), .int .u64 (y : Int)] w fun e w' => e = .returned (.int .i64 (Lib.compareInt x y)) ∧ w = w' := by
  have hn := fun x => isnan_u x w
  by_cases h1 : (x : Int) < (y : Int)
  · go_enter Tryz.func173, Tryz.ntmps173
    go_wp2_with (refine (hn _).mono ?_; rintro e w1 ⟨rfl, rfl⟩)
    go_ret
    exact ⟨by simp [Lib.compareInt, h1], rfl⟩
  · by_cases h2 : (y : Int) < (x : Int)
    · go_enter Tryz.func173, Tryz.ntmps173
      go_wp2_with (refine (hn _).mono ?_; rintro e w1 ⟨rfl, rfl⟩)
      go_ret
      exact ⟨by rw [Lib.compareInt, if_neg (by omega), if_pos (by omega)]; rfl, rfl⟩
    · go_enter Tryz.func173, Tryz.ntmps173
      go_wp2_with (refine (hn _).mono ?_; rintro e w1 ⟨rfl, rfl⟩)
      go_ret
      exact ⟨by rw [Lib.compareInt, if_neg (by omega), if_neg (by omega)]; rfl, rfl⟩
theorem dig_len_mono64 {B u v : Nat} (hB : 2 ≤ B) (h : u ≤ v) : (dig B u).length ≤ (dig B v).length := by
  refine dig_len_le hB (Nat.lt_of_le_of_lt h ?_)
  have h1 := val_lt (B := B) (by omega) (dig B v) (dig_low hB v)
  rwa [val_dig hB] at h1
theorem val_top {B : Nat} (hB : 0 < B) {A K : List Nat} {j x y : Nat} (hA : Low B A) (hx : A[j]? = some x) (hy : K[j]? = some y) (hd : A.drop (j + 1) = K.drop (j + 1)) (hlt : x < y) : val B A < val B K := by
  have hja : j < A.length := (List.getElem?_eq_some_iff.1 hx).1
  have hjk : j < K.length := (List.getElem?_eq_some_iff.1 hy).1
  have h1 := val_take_drop (B := B) A j
  have h2 := val_take_drop (B := B) K j
  rw [List.drop_eq_getElem_cons hja, (List.getElem?_eq_some_iff.1 hx).2] at h1
  rw [List.drop_eq_getElem_cons hjk, (List.getElem?_eq_some_iff.1 hy).2, ← hd] at h2
  simp only [val] at h1 h2
  have h3 := val_lt hB (A.take j) fun z hz => hA z (List.mem_of_mem_take hz)
  rw [List.length_take, Nat.min_eq_left (by omega)] at h3
  generalize val B (A.drop (j + 1)) = R at *
  have h4 : B ^ j * (x + B * R + 1) ≤ B ^ j * (y + B * R) := Nat.mul_le_mul_left _ (by omega)
  rw [Nat.mul_add (B ^ j) (x + B * R) 1, Nat.mul_one] at h4
  omega
set_option maxRecDepth 100000 in
set_option maxHeartbeats 4000000 in
theorem natcmp_any (a : Option Addr) (n c : Nat) (ls : List Nat) (b : Option Addr) (m d : Nat) (ks : List Nat) (w : World) (h1 : WordsIn w a n c ls) (h2 : WordsIn w b m d ks) (hn : n ≤ 100000) :
    Calls Tryz.prog 149 #[.slice a n c, .slice b m d] w fun e w' => (∃ r : Int, e = .returned (.int .i64 r) ∧ (r < 0 ↔ val (2 ^ 64) ls < val (2 ^ 64) ks) ∧ (0 < r ↔ val (2 ^ 64) ks < val (2 ^ 64) ls)) ∧ Below w.heap.size w w' := by
  have hl1 := h1.len
  have hl2 := h2.len
  have ht1 := trim_len ls
  have ht2 := trim_len ks
  have hv1 : val (2 ^ 64) (trimL ls) = val (2 ^ 64) ls := val_trim ls
  have hv2 : val (2 ^ 64) (trimL ks) = val (2 ^ 64) ks := val_trim ks
  have hd1 := trim_dig (B := 2 ^ 64) (by decide) h1.low
  have hd2 := trim_dig (B := 2 ^ 64) (by decide) h2.low
  have hc1 := fun W (hb : Below w.heap.size w W) => cut_any a n c ls W (h1.step hb)
  have hc2 := fun W (hb : Below w.heap.size w W) => cut_any b m d ks W (h2.step hb)
  have hw1 := fun W (hb : Below w.heap.size w W) => (h1.step hb).trim
  have hw2 := fun W (hb : Below w.heap.size w W) => (h2.step hb).trim
  rw [← hv1, ← hv2]
  rw [← hv1] at hd1
  rw [← hv2] at hd2
  obtain ⟨A, hA⟩ : ∃ A, trimL ls = A := ⟨_, rfl⟩
  obtain ⟨K, hK⟩ : ∃ K, trimL ks = K := ⟨_, rfl⟩
  rw [hA] at ht1 hc1 hw1 hd1 ⊢
  rw [hK] at ht2 hc2 hw2 hd2 ⊢
  have HC := Lib.hid (And.intro hc1 hc2)
  have HW := Lib.hid (And.intro hw1 hw2)
  have hlenL : A.length < K.length → val (2 ^ 64) A < val (2 ^ 64) K := fun h => Nat.lt_of_not_le fun hle => by
    have h3 := dig_len_mono64 (B := 2 ^ 64) (by decide) hle
    rw [← hd1, ← hd2] at h3; omega
  have hlenR : K.length < A.length → val (2 ^ 64) K < val (2 ^ 64) A := fun h => Nat.lt_of_not_le fun hle => by
    have h3 := dig_len_mono64 (B := 2 ^ 64) (by decide) hle
    rw [← hd1, ← hd2] at h3; omega
  have HL := Lib.hid (And.intro hlenL hlenR)
  clear hA hK hv1 hv2 hc1 hc2 hw1 hw2 h1 h2 hd1 hd2 hlenL hlenR
  by_cases hne : A.length = K.length
  · have hneI : ((A.length : Int) != (K.length : Int)) = false := by rw [hne]; simp
    go_enter Tryz.func149, Tryz.ntmps149
    go_wp2_with (first
      | (go_at_call_of 143 a; refine (HC.out.1 _ (Below.refl _ _)).mono ?_; rintro e w1 ⟨rfl, hb1⟩; have HB1 := Lib.hid hb1; clear hb1)
      | (go_at_call_of 143 b; refine (HC.out.2 _ HB1.out).mono ?_; rintro e w2 ⟨rfl, hb2⟩; have HB2 := Lib.hid (Below.next0 HB1.out hb2); clear hb2))
    have HWA := Lib.hid (And.intro (HW.out.1 w2 HB2.out) (HW.out.2 w2 HB2.out))
    clear HW HC HL HB1
    go_loopw [5] (fun iv wr => ∃ j : Nat, iv = .int .i64 ((j : Int) - 1) ∧ j ≤ A.length ∧ A.drop j = K.drop j ∧ Below w2.heap.size w2 wr) (fun iv _ => (intOf iv + 1).toNat)
    case atStart => exact ⟨A.length, by rw [hne], Nat.le_refl _, by rw [List.drop_length, List.drop_eq_nil_of_le (by omega)], Below.refl _ _⟩
    case round =>
      obtain ⟨j, rfl, hj, hdr, hb⟩ := hrel
      cases j with
      | zero =>
        have heq : A = K := by simpa using hdr
        have hbq := Below.next0 HB2.out hb
        have HE := Lib.hid (And.intro heq hbq)
        clear hdr heq hb hbq
        go_wp2_with fail
        go_ret
        exact ⟨⟨0, rfl, by rw [HE.out.1]; simp, by rw [HE.out.1]; simp⟩, HE.out.2⟩
      | succ j =>
        obtain ⟨x, hx⟩ : ∃ x, A[j]? = some x := ⟨_, List.getElem?_eq_getElem (by omega)⟩
        obtain ⟨y, hy⟩ : ∃ y, K[j]? = some y := ⟨_, List.getElem?_eq_getElem (by omega)⟩
        obtain ⟨g1, o1, hae, hg1, hcx⟩ := (HWA.out.1.rd.below hb).at_ hx
        obtain ⟨g2, o2, hbe, hg2, hcy⟩ := (HWA.out.2.rd.below hb).at_ hy
        subst hae hbe
        have hjI : ((j + 1 : Nat) : Int) - 1 = (j : Int) := by omega
        have hjA : (j : Int) < (A.length : Int) := by omega
        have hjK : (j : Int) < (K.length : Int) := by omega
        have HH := Lib.hid (And.intro hdr (And.intro hb (And.intro hx hy)))
        clear hdr hb hx hy
        rw [hjI]
        by_cases hxy : x = y
        · subst hxy
          have hxx : ((x : Int) != (x : Int)) = false := by simp
          go_wp2_with fail
          go_quiet (fail)
          go_wp2_with fail
          refine ⟨⟨j, rfl, by omega, ?_, ⟨HH.out.2.1.os, HH.out.2.1.tape, HH.out.2.1.output, HH.out.2.1.size, HH.out.2.1.block⟩⟩, by simp only [intOf]; omega⟩
          have h1 := HH.out.1
          have e1 := (List.getElem?_eq_some_iff.1 HH.out.2.2.1)
          have e2 := (List.getElem?_eq_some_iff.1 HH.out.2.2.2)
          rw [List.drop_eq_getElem_cons e1.1, List.drop_eq_getElem_cons e2.1, e1.2, e2.2, h1]
        · have hxx : ((x : Int) != (y : Int)) = true := by rw [bne_iff_ne]; omega
          have hcu : ∀ W, Calls Tryz.prog 173 #[.int .u64 (x : Int), .int .u64 (y : Int)] W fun e w' => e = .returned (.int .i64 (Lib.compareInt x y)) ∧ ∃ n, w' = W.drewN n := fun W => (compare_u x y W).mono (by rintro e w' ⟨rfl, rfl⟩; exact ⟨rfl, 0, rfl⟩)
          go_wp2_with fail
          go_quiet (fail)
          obtain ⟨W5, hW5⟩ : ∃ W5, wr.drewN nq = W5 := ⟨_, rfl⟩
          have hcx2 : W5.cell? ⟨g1, o1 + j, none⟩ = some (.int .u64 (x : Int)) := by rw [← hW5, World.cell?_drewN]; exact hcx
          have hcy2 : W5.cell? ⟨g2, o2 + j, none⟩ = some (.int .u64 (y : Int)) := by rw [← hW5, World.cell?_drewN]; exact hcy
          have hb5 : Below w2.heap.size w2 W5 := by rw [← hW5]; exact ⟨HH.out.2.1.os, HH.out.2.1.tape, HH.out.2.1.output, HH.out.2.1.size, HH.out.2.1.block⟩
          have HB5 := Lib.hid hb5
          rw [hW5]
          clear hW5 hb5
          go_wp2_with fail
          go_quiet (first | (refine Calls.quiet_of (hcu _)))
          go_wp2_with fail
          go_ret
          have hbq := Below.next0 HB2.out HB5.out
          refine ⟨⟨_, rfl, ?_⟩, ⟨hbq.os, hbq.tape, hbq.output, hbq.size, hbq.block⟩⟩
          unfold Lib.compareInt
          by_cases hlt : x < y
          · have := val_top (B := 2 ^ 64) (by decide) HWA.out.1.low HH.out.2.2.1 HH.out.2.2.2 HH.out.1 hlt
            rw [if_pos (by omega)]
            exact ⟨⟨fun _ => this, fun _ => by decide⟩, ⟨fun h => by simp at h, fun h => by omega⟩⟩
          · have := val_top (B := 2 ^ 64) (by decide) HWA.out.2.low HH.out.2.2.2 HH.out.2.2.1 HH.out.1.symm (by omega)
            rw [if_neg (by omega), if_pos (by omega)]
            exact ⟨⟨fun h => by simp at h, fun h => by omega⟩, ⟨fun _ => this, fun _ => by decide⟩⟩
  · have hneI : ((A.length : Int) != (K.length : Int)) = true := by rw [bne_iff_ne]; omega
    have hcm := fun W => Tryz.cmp_Compare_int (A.length : Int) (K.length : Int) W
    go_enter Tryz.func149, Tryz.ntmps149
    go_wp2_with (first
      | (go_at_call_of 143 a; refine (HC.out.1 _ (Below.refl _ _)).mono ?_; rintro e w1 ⟨rfl, hb1⟩; have HB1 := Lib.hid hb1; clear hb1)
      | (go_at_call_of 143 b; refine (HC.out.2 _ HB1.out).mono ?_; rintro e w2 ⟨rfl, hb2⟩; have HB2 := Lib.hid (Below.next0 HB1.out hb2); clear hb2)
      | (refine (hcm _).mono ?_; rintro e w3 ⟨rfl, hw3⟩; obtain rfl := hw3.symm))
    go_ret
    refine ⟨⟨_, rfl, ?_⟩, HB2.out⟩
    unfold Lib.compareInt
    by_cases hlt : A.length < K.length
    · have := HL.out.1 hlt
      rw [if_pos (by omega)]
      exact ⟨⟨fun _ => this, fun _ => by decide⟩, ⟨fun h => by simp at h, fun h => by omega⟩⟩
    · have := HL.out.2 (by omega)
      rw [if_neg (by omega), if_pos (by omega)]
      exact ⟨⟨fun h => by simp at h, fun h => by omega⟩, ⟨fun _ => this, fun _ => by decide⟩⟩
end Go.Proofs.YtdilmfakkppgpaaGreatDoor
namespace Go.Proofs.YtdilmfakkppgpaaGreatDoor
open Go.RowKit WordsM
theorem dig_one {d : Nat} (h : d < 2 ^ 64) (h0 : d ≠ 0) : dig (2 ^ 64) d = [d] := by rw [dig_step (by decide) h0, Nat.mod_eq_of_lt h, Nat.div_eq_of_lt h, dig_zero]
theorem words_1 (w : World) (m : Nat) (hm : m < 18446744073709551616) (T : TypeId) : WordsIn (w.alloc (.cells #[.int .u64 (m : Int)] T)) (some ⟨w.heap.size, 0, none⟩) 1 1 [m] :=
  ⟨rfl, Nat.le_refl _, by omega, fun x hx => by rw [List.mem_singleton] at hx; subst hx; exact hm, .inr ⟨w.heap.size, 0, rfl, by rw [World.size_alloc]; omega, fun j x hx => by
    cases j with
    | zero => simp only [List.getElem?_cons_zero, Option.some.injEq] at hx; subst hx; rw [cell_of_row _ _ _ _ _ _ (heap_alloc_new _ _)]; rfl
    | succ j => simp at hx⟩⟩
theorem val_1 (B m : Nat) : val B [m] = m := by simp [val]
set_option maxRecDepth 100000 in
set_option maxHeartbeats 4000000 in
theorem natdiv1_any (a : Option Addr) (n c : Nat) (ls : List Nat) (b : Option Addr) (cb : Nat) (d : Nat) (w : World) (h1 : WordsIn w a n c ls) (h2 : WordsIn w b 1 cb [d]) (hn : n ≤ 100000) (hd : 9223372036854775808 ≤ d) (hv0 : val (2 ^ 64) ls ≠ 0) :
    Calls Tryz.prog 153 #[.slice a n c, .slice b 1 cb] w fun e w' => ∃ aq nq cq ar nr cr, e = .returned (.tuple #[.slice aq nq cq, .slice ar nr cr, .bool true]) ∧ WordsIn w' aq nq cq (dig (2 ^ 64) (val (2 ^ 64) ls / d)) ∧ WordsIn w' ar nr cr (dig (2 ^ 64) (val (2 ^ 64) ls % d)) ∧ Below w.heap.size w w' ∧ ∀ x, aq = some x → w.heap.size ≤ x.block := by
  have hdl : d < 18446744073709551616 := h2.low d (by simp)
  have ht1 := trim_len ls
  have hl1 := h1.len
  have hv1 : val (2 ^ 64) (trimL ls) = val (2 ^ 64) ls := val_trim ls
  have htd : trimL [d] = [d] := by have := trimL_snoc [] (x := d) (by omega); simpa using this
  have hc1 := fun W (hb : Below w.heap.size w W) => cut_any a n c ls W (h1.step hb)
  have hc2 := fun W (hb : Below w.heap.size w W) => cut_any b 1 cb [d] W (h2.step hb)
  rw [htd] at hc2
  have hw1 := fun W (hb : Below w.heap.size w W) => (h1.step hb).trim
  have hw2 := fun W (hb : Below w.heap.size w W) => h2.step hb
  rw [← hv1] at hv0 ⊢
  obtain ⟨A, hA⟩ : ∃ A, trimL ls = A := ⟨_, rfl⟩
  rw [hA] at ht1 hc1 hw1 hv0 ⊢
  have HC := Lib.hid (And.intro hc1 hc2)
  have HW := Lib.hid (And.intro hw1 (And.intro hw2 hv0))
  clear hA hv1 hc1 hc2 hw1 hw2 h1 h2 htd hv0
  have hlen1 : ([d] : List Nat).length = 1 := rfl
  rw [hlen1] at HC
  by_cases hlt : val (2 ^ 64) A < d
  · have HQ := Lib.hid (And.intro (Nat.div_eq_of_lt hlt) (And.intro (Nat.mod_eq_of_lt hlt) hlt))
    clear hlt
    go_enter Tryz.func153, Tryz.ntmps153
    go_wp2_with (first
      | (go_at_call_of 143 a; refine (HC.out.1 _ (Below.refl _ _)).mono ?_; rintro e w1 ⟨rfl, hb1⟩; have HB1 := Lib.hid hb1; clear hb1)
      | (go_at_call_of 143 b; refine (HC.out.2 _ HB1.out).mono ?_; rintro e w2 ⟨rfl, hb2⟩; have HB2 := Lib.hid (Below.next0 HB1.out hb2); clear hb2)
      | (go_at_call_of 149 a; refine (natcmp_any a A.length c A b 1 cb [d] _ (HW.out.1 _ HB2.out) (HW.out.2.1 _ HB2.out) (by omega)).mono ?_; rintro e w3 ⟨⟨r, rfl, hr1, hr2⟩, hb3⟩; rw [val_1] at hr1; have hr0 : r < 0 := hr1.2 HQ.out.2.2; have HB3 := Lib.hid (Below.next0 HB2.out hb3); clear hb3 hr1 hr2)
      | (refine (nattrim_any a A.length c A _ (HW.out.1 _ HB3.out) (by omega) HW.out.2.2).mono ?_; rintro e w4 ⟨a4, n4, c4, rfl, hW4, hb4⟩; have HB4 := Lib.hid (And.intro hW4 (Below.next0 HB3.out hb4)); clear hW4 hb4))
    refine ⟨rfl, .tuple #[.slice none 0 0, .slice a4 n4 c4, .bool true], by simp [results, go_sem], none, 0, 0, a4, n4, c4, rfl, ?_, ?_, HB4.out.2, fun x e => by cases e⟩
    · rw [HQ.out.1]; exact ⟨rfl, Nat.le_refl _, by omega, fun x hx => by simp [dig_zero] at hx, .inl rfl⟩
    · rw [HQ.out.2.1]; exact HB4.out.1
  · have hle : d ≤ val (2 ^ 64) A := by omega
    have HQ := Lib.hid hle
    have HV := Lib.hid hlt
    clear hlt hle
    obtain ⟨rm, hrm⟩ : ∃ rm, val (2 ^ 64) A % d = rm := ⟨_, rfl⟩
    have hml : rm < 18446744073709551616 := by rw [← hrm]; exact Nat.lt_trans (Nat.mod_lt _ (by omega)) hdl
    have HRM := Lib.hid hrm
    clear hrm
    go_enter Tryz.func153, Tryz.ntmps153
    go_wp2_with (first
      | (go_at_call_of 143 a; refine (HC.out.1 _ (Below.refl _ _)).mono ?_; rintro e w1 ⟨rfl, hb1⟩; have HB1 := Lib.hid hb1; clear hb1)
      | (go_at_call_of 143 b; refine (HC.out.2 _ HB1.out).mono ?_; rintro e w2 ⟨rfl, hb2⟩; have HB2 := Lib.hid (Below.next0 HB1.out hb2); clear hb2)
      | (go_at_call_of 149 a; refine (natcmp_any a A.length c A b 1 cb [d] _ (HW.out.1 _ HB2.out) (HW.out.2.1 _ HB2.out) (by omega)).mono ?_; rintro e w3 ⟨⟨r, rfl, hr1, hr2⟩, hb3⟩; rw [val_1] at hr1; have hr0 : ¬ r < 0 := fun h => HV.out (hr1.1 h); have HB3 := Lib.hid (Below.next0 HB2.out hb3);
         obtain ⟨gb, ob, hbe, hgb, hcb⟩ := (HW.out.2.1 _ HB3.out).rd.at_ (k := 0) (x := d) rfl; rw [Nat.add_zero] at hcb; subst hbe; clear hb3 hr1 hr2)
      | (go_at_call_of 179 a; have hbw := byword_any a A.length c A d w3 (HW.out.1 _ HB3.out) (by omega) hd hdl; rw [HRM.out] at hbw; refine hbw.mono ?_; rintro e w4 ⟨a4, n4, c4, rfl, hW4, hb4, hfr⟩; have HB4 := Lib.hid (And.intro hW4 (And.intro (Below.next0 HB3.out hb4) (fun x (e : a4 = some x) => Nat.le_trans HB3.out.size (hfr x e)))); clear hW4 hb4 hbw hfr)
      | (refine (cut_any _ 1 1 [rm] _ (words_1 w4 rm hml 74)).mono ?_; rintro e w5 ⟨rfl, hb5⟩; have HB5 := Lib.hid hb5; clear hb5))
    have hb6 := Below.next0 ((Below.refl _ _).alloc (Nat.le_refl _) (.cells #[.int .u64 (rm : Int)] 74)) HB5.out
    have htr := ((words_1 w4 rm hml 74).step HB5.out).trim
    have hdg := trim_dig (B := 2 ^ 64) (by decide) (words_1 w4 rm hml 74).low
    rw [val_1] at hdg
    rw [hdg] at htr
    refine ⟨rfl, .tuple #[.slice a4 n4 c4, .slice (some ⟨w4.heap.size, 0, none⟩) (trimL [rm]).length 1, .bool true], by simp [results, go_sem], a4, n4, c4, _, _, _, rfl, HB4.out.1.step hb6, ?_, Below.next0 HB4.out.2.1 hb6, HB4.out.2.2⟩
    rw [HRM.out, hdg]
    exact htr
end Go.Proofs.YtdilmfakkppgpaaGreatDoor
namespace Go.Proofs.YtdilmfakkppgpaaGreatDoor
namespace NatM
abbrev base32 : Nat := 4294967296
def val : List Nat → Nat
  | [] => 0
  | m :: r => m + base32 * val r
def trimL : List Nat → List Nat
  | [] => []
  | m :: r => match trimL r with
    | [] => if m = 0 then [] else [m]
    | x :: y => m :: x :: y
def small (l : List Nat) : Prop := ∀ m ∈ l, m < base32
theorem val_trim : ∀ l : List Nat, val (trimL l) = val l
  | [] => rfl
  | m :: r => by
    have ih := val_trim r
    simp only [trimL, val]
    split
    · rename_i h
      rw [h] at ih
      split
      · rename_i h0; rw [h0, ← ih]; rfl
      · rw [← ih]; rfl
    · rename_i x y h
      rw [h] at ih
      simp only [val] at ih ⊢
      rw [ih]
def div10 : List Nat → List Nat × Nat
  | [] => ([], 0)
  | m :: r => (((div10 r).2 * base32 + m) / 10 :: (div10 r).1, ((div10 r).2 * base32 + m) % 10)
theorem div10_rest : ∀ l : List Nat, (div10 l).2 < 10
  | [] => by decide
  | m :: r => Nat.mod_lt _ (by decide)
theorem div10_small : ∀ {l : List Nat}, small l → small (div10 l).1
  | [], _ => fun m hm => by cases hm
  | m :: r, h => by
    have ih := div10_small (l := r) fun x hx => h x (by simp [hx])
    have h1 : m < 4294967296 := h m (by simp)
    have h2 := div10_rest r
    intro x hx
    rcases List.mem_cons.1 hx with rfl | hx
    · show ((div10 r).2 * 4294967296 + m) / 10 < 4294967296
      omega
    · exact ih x hx
def halves (ws : List Nat) : List Nat := ws.flatMap fun w => [w % base32, w / base32]
theorem halves_small {ws : List Nat} (h : ∀ w ∈ ws, w < 18446744073709551616) : small (halves ws) := by
  intro m hm
  obtain ⟨w, hw, hm⟩ := List.mem_flatMap.1 hm
  have := h w hw
  show m < 4294967296
  rcases List.mem_cons.1 hm with rfl | hm
  · exact Nat.mod_lt _ (by decide)
  · rw [List.mem_singleton] at hm
    subst hm
    show w / 4294967296 < _
    omega
theorem halves_len (ws : List Nat) : (halves ws).length = 2 * ws.length := by
  induction ws with
  | nil => rfl
  | cons w r ih => simp only [halves, List.flatMap_cons, List.length_append, List.length_cons, List.length_nil] at ih ⊢; omega
theorem val_lt : ∀ {l : List Nat}, small l → val l < base32 ^ l.length
  | [], _ => by simp [val]
  | m :: r, h => by
    have ih := val_lt (l := r) fun x hx => h x (by simp [hx])
    have h1 : m < 4294967296 := h m (by simp)
    simp only [val, List.length_cons, Nat.pow_succ]
    rw [Nat.mul_comm (base32 ^ r.length)]
    have h2 : base32 * (val r + 1) ≤ base32 * base32 ^ r.length := Nat.mul_le_mul_left _ ih
    rw [Nat.mul_add] at h2
    show m + 4294967296 * val r < _
    have h3 : base32 * val r + base32 * 1 = 4294967296 * val r + 4294967296 := rfl
    omega
theorem dec_len (j : Nat) : ∀ n, n < 10 ^ j → 1 ≤ j → (Lib.decDigits n).length ≤ j := by
  induction j with
  | zero => intro n _ h; omega
  | succ j ih =>
    intro n hn _
    rw [Lib.decDigits]
    split
    · simp
    · have hj : 1 ≤ j := by
        rcases Nat.eq_zero_or_pos j with rfl | h
        · simp at hn; omega
        · exact h
      have := ih (n / 10) (by rw [Nat.pow_succ] at hn; omega) hj
      simp only [List.length_append, List.length_singleton]
      omega
theorem dec_val_len {l : List Nat} (h : small l) : (Lib.decDigits (val l)).length ≤ 10 * l.length + 1 := by
  refine dec_len _ _ ?_ (by omega)
  refine Nat.lt_of_lt_of_le (val_lt h) ?_
  rw [Nat.pow_succ, Nat.pow_mul]
  refine Nat.le_trans (Nat.pow_le_pow_left (show base32 ≤ 10 ^ 10 by decide) _) ?_
  omega
end NatM
end Go.Proofs.YtdilmfakkppgpaaGreatDoor
namespace Go.Proofs.YtdilmfakkppgpaaGreatDoor
open Go.RowKit NatM
abbrev nv3 (k : IntKind) (m : Nat) : Value := .int k (m : Int)
def RdN (k : IntKind) (w : World) (B : Nat) (a : Option Addr) (ms : List Nat) : Prop := ms = [] ∨ ∃ b o, a = some ⟨b, o, none⟩ ∧ b < B ∧ ∀ (j : Nat) m, ms[j]? = some m → w.cell? ⟨b, o + j, none⟩ = some (nv3 k m)
section
variable {k : IntKind} {w w' : World} {B B' : Nat} {a : Option Addr} {ms : List Nat}
end
abbrev sv (l : List UInt8) : Value := .string ⟨l.toArray⟩
theorem RdN.rdI {k : IntKind} {w : World} {B : Nat} {a : Option Addr} {ms : List Nat} (h : RdN k w B a ms) : RdI k w B a ms := h
theorem Row.rdN {k : IntKind} {w : World} {B : Nat} {e : TypeId} {a : Option Addr} {n c : Nat} {ms : List Nat} (h : Row w B e 1 a n c (ms.map (nv3 k))) : RdN k w w.heap.size a ms := by
  by_cases h0 : ms = []
  · exact .inl h0
  · obtain ⟨m, hm⟩ : ∃ m, ms[0]? = some m := by
      cases ms with
      | nil => exact absurd rfl h0
      | cons m r => exact ⟨m, rfl⟩
    obtain ⟨g, rfl, _, hg, _⟩ := h.at_ (j := 0) (x := nv3 k m) (by rw [List.getElem?_map, hm]; rfl)
    refine .inr ⟨g, 0, rfl, hg, fun j x hx => ?_⟩
    obtain ⟨g', e, _, _, hc⟩ := h.at_ (j := j) (x := nv3 k x) (by rw [List.getElem?_map, hx]; rfl)
    injection e with e; injection e with e
    subst e
    rw [Nat.zero_add]; exact hc
end Go.Proofs.YtdilmfakkppgpaaGreatDoor
namespace Go.Proofs.YtdilmfakkppgpaaGreatDoor
open Go.RowKit NatM
theorem drop_one {α : Type} (l : List α) (i : Nat) (m : α) (h : l[i]? = some m) : l.drop i = m :: l.drop (i + 1) := by
  obtain ⟨hi, rfl⟩ := List.getElem?_eq_some_iff.1 h
  exact List.drop_eq_getElem_cons hi
end Go.Proofs.YtdilmfakkppgpaaGreatDoor
namespace Go.Proofs.YtdilmfakkppgpaaGreatDoor
open Go.RowKit WordsM
structure DigIn (w : World) (a : Option Addr) (n c : Nat) (v : Nat) : Prop where
  len : (dig (2 ^ 32) v).length = n
  cap : n ≤ c
  most : c ≤ 9223372036854775807
  rd : RdI .u32 w w.heap.size a (dig (2 ^ 32) v)
theorem Row.rdI {k : IntKind} {w : World} {B : Nat} {e : TypeId} {a : Option Addr} {n c : Nat} {ms : List Nat} (h : Row w B e 1 a n c (ms.map (nv k))) : RdI k w w.heap.size a ms := (Row.rdN (k := k) (ms := ms) h).rdI
end Go.Proofs.YtdilmfakkppgpaaGreatDoor
namespace Go.Proofs.YtdilmfakkppgpaaGreatDoor
open Go.RowKit WordsM
end Go.Proofs.YtdilmfakkppgpaaGreatDoor
namespace Go.Proofs.YtdilmfakkppgpaaGreatDoor
open Go.RowKit WordsM
end Go.Proofs.YtdilmfakkppgpaaGreatDoor
namespace Go.Proofs.YtdilmfakkppgpaaGreatDoor
open Go.RowKit WordsM
end Go.Proofs.YtdilmfakkppgpaaGreatDoor
namespace Go.Proofs.YtdilmfakkppgpaaGreatDoor
open Go.RowKit
structure NumBox (w : World) (b : Nat) (v0 v1 v2 : Value) : Prop where
  c0 : w.cell? ⟨b, 0, none⟩ = some v0
  c1 : w.cell? ⟨b, 1, none⟩ = some v1
  c2 : w.cell? ⟨b, 2, none⟩ = some v2
  f0 : w.frozen? ⟨b, 0, none⟩ = false
  f1 : w.frozen? ⟨b, 1, none⟩ = false
  f2 : w.frozen? ⟨b, 2, none⟩ = false
theorem NumBox.new (w : World) (v0 v1 v2 : Value) (T : TypeId) : NumBox (w.alloc (.cells #[v0, v1, v2] T)) w.heap.size v0 v1 v2 :=
  ⟨by rw [cell_of_row _ _ _ _ _ _ (heap_alloc_new _ _)]; rfl, by rw [cell_of_row _ _ _ _ _ _ (heap_alloc_new _ _)]; rfl, by rw [cell_of_row _ _ _ _ _ _ (heap_alloc_new _ _)]; rfl,
    frozen_of_row _ _ _ _ _ (heap_alloc_new _ _), frozen_of_row _ _ _ _ _ (heap_alloc_new _ _), frozen_of_row _ _ _ _ _ (heap_alloc_new _ _)⟩
theorem box_lt (w : World) (o : Obj) : w.heap.size < (w.alloc o).heap.size := by rw [World.size_alloc]; omega
theorem NumBox.step {w w' : World} {b B : Nat} {v0 v1 v2 : Value} (h : NumBox w b v0 v1 v2) (hb : Below B w w') (hB : b < B) : NumBox w' b v0 v1 v2 :=
  ⟨(hb.cell (p := ⟨b, 0, none⟩) hB).trans h.c0, (hb.cell (p := ⟨b, 1, none⟩) hB).trans h.c1, (hb.cell (p := ⟨b, 2, none⟩) hB).trans h.c2, (hb.frozen (p := ⟨b, 0, none⟩) hB).trans h.f0, (hb.frozen (p := ⟨b, 1, none⟩) hB).trans h.f1, (hb.frozen (p := ⟨b, 2, none⟩) hB).trans h.f2⟩
theorem NumBox.d1 {w : World} {b : Nat} {v0 v1 v2 : Value} (h : NumBox w b v0 v1 v2) (u0 : Value) : (w.setCell ⟨b, 0, none⟩ u0).cell? ⟨b, 1, none⟩ = some v1 := (World.cell?_setCell_other _ _ _ _ (by simp)).trans h.c1
theorem NumBox.d2 {w : World} {b : Nat} {v0 v1 v2 : Value} (h : NumBox w b v0 v1 v2) (u0 u1 : Value) : ((w.setCell ⟨b, 0, none⟩ u0).setCell ⟨b, 1, none⟩ u1).cell? ⟨b, 2, none⟩ = some v2 := (World.cell?_setCell_other _ _ _ _ (by simp)).trans ((World.cell?_setCell_other _ _ _ _ (by simp)).trans h.c2)
theorem NumBox.store {w : World} {b : Nat} {v0 v1 v2 : Value} (h : NumBox w b v0 v1 v2) (u0 u1 u2 : Value) : NumBox (((w.setCell ⟨b, 0, none⟩ u0).setCell ⟨b, 1, none⟩ u1).setCell ⟨b, 2, none⟩ u2) b u0 u1 u2 :=
  ⟨(World.cell?_setCell_other _ _ _ _ (by simp)).trans ((World.cell?_setCell_other _ _ _ _ (by simp)).trans (World.cell?_setCell_same' _ _ _ (by rw [h.c0]; rfl))), (World.cell?_setCell_other _ _ _ _ (by simp)).trans (World.cell?_setCell_same' _ _ _ (by rw [h.d1]; rfl)), World.cell?_setCell_same' _ _ _ (by rw [h.d2]; rfl), by simp [h.f0], by simp [h.f1], by simp [h.f2]⟩
theorem NumBox.below {w w0 : World} {b B : Nat} (hb : Below B w0 w) (hB : B ≤ b) (u0 u1 u2 : Value) : Below B w0 (((w.setCell ⟨b, 0, none⟩ u0).setCell ⟨b, 1, none⟩ u1).setCell ⟨b, 2, none⟩ u2) :=
  ((hb.setCell (p := ⟨b, 0, none⟩) hB _).setCell (p := ⟨b, 1, none⟩) hB _).setCell (p := ⟨b, 2, none⟩) hB _
theorem RdI.store3 {K : IntKind} {w : World} {B b : Nat} {a : Option Addr} {ls : List Nat} {v0 v1 v2 : Value} (h : RdI K w B a ls) (hN : NumBox w b v0 v1 v2) (h0 : ∀ x : Nat, v0 ≠ nv K x) (h1 : ∀ x : Nat, v1 ≠ nv K x) (h2 : ∀ x : Nat, v2 ≠ nv K x) (u0 u1 u2 : Value) :
    RdI K (((w.setCell ⟨b, 0, none⟩ u0).setCell ⟨b, 1, none⟩ u1).setCell ⟨b, 2, none⟩ u2) B a ls := by
  rcases h with rfl | ⟨g, o, rfl, hg, hc⟩
  · exact .inl rfl
  · refine .inr ⟨g, o, rfl, hg, fun j x hx => ?_⟩
    have hcx := hc j x hx
    have key : ∀ (i : Nat) (v : Value), w.cell? ⟨b, i, none⟩ = some v → (∀ x : Nat, v ≠ nv K x) → (⟨g, o + j, none⟩ : Addr) ≠ ⟨b, i, none⟩ := fun i v hv hne e => by
      rw [e, hv] at hcx
      injection hcx with hcx
      exact hne x hcx
    exact (World.cell?_setCell_other _ _ _ _ (key 2 v2 hN.c2 h2).symm).trans ((World.cell?_setCell_other _ _ _ _ (key 1 v1 hN.c1 h1).symm).trans ((World.cell?_setCell_other _ _ _ _ (key 0 v0 hN.c0 h0).symm).trans hcx))
theorem box_size (w : World) (b : Nat) (u0 u1 u2 : Value) : w.heap.size ≤ (((w.setCell ⟨b, 0, none⟩ u0).setCell ⟨b, 1, none⟩ u1).setCell ⟨b, 2, none⟩ u2).heap.size := (NumBox.below (Below.refl b w) (Nat.le_refl b) u0 u1 u2).size
end Go.Proofs.YtdilmfakkppgpaaGreatDoor
namespace Go.Proofs.YtdilmfakkppgpaaGreatDoor
open Go.RowKit WordsM
def IsNum (neg : Bool) (exp : Int) (ls : List Nat) : Prop :=
  if ls = [] then neg = false ∧ exp = 0 else (trimL ls).length = ls.length ∧ ls.length ≤ 64 ∧ ls.headD 0 % 2 = 1 ∧ -65536 ≤ exp ∧ exp ≤ 65536
instance (neg : Bool) (exp : Int) (ls : List Nat) : Decidable (IsNum neg exp ls) := by unfold IsNum; infer_instance
set_option maxRecDepth 100000 in
set_option maxHeartbeats 2000000 in
theorem numright_any (neg : Bool) (exp : Int) (a : Option Addr) (n c : Nat) (ls : List Nat) (w : World) (h : WordsIn w a n c ls) (he : -9223372036854775808 ≤ exp) (he2 : exp ≤ 9223372036854775807) (hn : n ≤ 9223372036854775807) :
    Calls Tryz.prog 53 #[.agg #[.bool neg, .int .i64 exp, .slice a n c]] w fun e w' => e = .returned (.bool (decide (IsNum neg exp ls))) ∧ Below w.heap.size w w' := by
  have hln := h.len
  have hB0 : ∀ o, Below w.heap.size w (w.alloc o) := fun o => (Below.refl _ _).alloc (Nat.le_refl _) _
  by_cases h0 : n = 0
  · obtain rfl : ls = [] := List.length_eq_zero_iff.1 (by omega)
    subst h0
    cases neg
    · go_enter Tryz.func53, Tryz.ntmps53
      go_wp2_with fail
      go_ret
      refine ⟨?_, hB0 _⟩
      show Ending.returned (.bool _) = _
      congr 2
      by_cases h : exp = 0 <;> simp [IsNum, h]
    · go_enter Tryz.func53, Tryz.ntmps53
      go_wp2_with fail
      go_ret
      refine ⟨?_, hB0 _⟩
      show Ending.returned (.bool _) = _
      congr 2
  · obtain ⟨x, hx⟩ : ∃ x, ls[0]? = some x := ⟨_, List.getElem?_eq_getElem (by omega)⟩
    have hne : ls ≠ [] := fun e => by rw [e] at hx; simp at hx
    have hxl : x < 18446744073709551616 := h.low x (List.mem_of_getElem? hx)
    have hhd : ls.headD 0 = x := by cases ls with
      | nil => exact absurd rfl hne
      | cons y r => simpa using hx
    have h0I : ((n : Int) == 0) = false := by rw [beq_eq_false_iff_ne]; omega
    have hand : bits .and .u64 (x : Int) 1 = ((x % 2 : Nat) : Int) := by rw [show (1 : Int) = ((1 : Nat) : Int) from rfl, u64_and_nat x 1 hxl (by decide), nat_mask1]
    obtain ⟨m, hm⟩ : ∃ m, x % 2 = m := ⟨_, rfl⟩
    rw [hm] at hand
    have hr := fun W (hb : Below w.heap.size w W) => natright_any a n c ls W (h.step hb)
    have hN : IsNum neg exp ls ↔ ((trimL ls).length = n ∧ n ≤ 64 ∧ m = 1 ∧ -65536 ≤ exp ∧ exp ≤ 65536) := by
      unfold IsNum
      rw [if_neg hne, hhd, hm, hln]
    have hex : decide (IsNum neg exp ls) = (decide ((trimL ls).length = n) && (!decide ((64 : Int) < n) && ((m : Int) == 1 && (decide (-65536 ≤ exp) && decide (exp ≤ 65536))))) := by
      have e64 : ((64 : Int) < (n : Int)) ↔ ¬ n ≤ 64 := by omega
      have e1 : ((m : Int) == 1) = decide (m = 1) := by by_cases h : m = 1 <;> simp [h] <;> omega
      rw [e1, Bool.eq_iff_iff]
      simp only [decide_eq_true_eq, Bool.and_eq_true, Bool.not_eq_true', decide_eq_false_iff_not, e64, Nat.not_le, Nat.not_lt]
      exact hN
    rw [hex]
    obtain ⟨R, hR⟩ : ∃ R, decide ((trimL ls).length = n) = R := ⟨_, rfl⟩
    rw [hR] at hr ⊢
    have HR := Lib.hid hr
    have HH := Lib.hid (And.intro h hx)
    clear hr hR hex hm hhd hne hN
    have h0n : 0 < n := by omega
    clear h0
    have hlt : w.heap.size < (w.alloc (.cells #[.bool neg, .int .i64 exp, .slice a n c] 41)).heap.size := (Array.getElem?_eq_some_iff.1 (heap_alloc_new w _)).1
    have hk1 : (w.alloc (.cells #[.bool neg, .int .i64 exp, .slice a n c] 41)).cell? ⟨w.heap.size, 1, none⟩ = some (.int .i64 exp) := by rw [cell_of_row _ _ _ _ _ _ (heap_alloc_new _ _)]; rfl
    have hk2 : (w.alloc (.cells #[.bool neg, .int .i64 exp, .slice a n c] 41)).cell? ⟨w.heap.size, 2, none⟩ = some (.slice a n c) := by rw [cell_of_row _ _ _ _ _ _ (heap_alloc_new _ _)]; rfl
    have HK := Lib.hid (And.intro hlt (And.intro hk1 hk2))
    clear hlt hk1 hk2
    cases R
    · go_enter Tryz.func53, Tryz.ntmps53
      go_wp2_with (refine (HR.out _ (hB0 _)).mono ?_; rintro e w1 ⟨rfl, hb1⟩; have HB1 := Lib.hid hb1; clear hb1)
      go_ret
      exact ⟨rfl, Below.next0 (hB0 _) HB1.out⟩
    · obtain ⟨b, o, hae, hbl, hcx⟩ := HH.out.1.rd.at_ HH.out.2
      subst hae
      rw [Nat.add_zero] at hcx
      by_cases h64 : (64 : Int) < (n : Int)
      · go_enter Tryz.func53, Tryz.ntmps53
        go_wp2_with (refine (HR.out _ (hB0 _)).mono ?_; rintro e w1 ⟨rfl, hb1⟩; have hc1 := (hb1.cell (p := ⟨w.heap.size, 1, none⟩) HK.out.1).trans HK.out.2.1; have hc2 := (hb1.cell (p := ⟨w.heap.size, 2, none⟩) HK.out.1).trans HK.out.2.2; have HB1 := Lib.hid hb1; clear hb1)
        all_goals
          go_ret
          refine ⟨?_, Below.next0 (hB0 _) HB1.out⟩
          show Ending.returned (.bool _) = Ending.returned (.bool _)
          clear HH HK HR HB1 hc1 hc2 hcx h
          congr 2
        all_goals simp_all
        all_goals omega
      · go_enter Tryz.func53, Tryz.ntmps53
        go_wp2_with (refine (HR.out _ (hB0 _)).mono ?_; rintro e w1 ⟨rfl, hb1⟩; have hc1 := (hb1.cell (p := ⟨w.heap.size, 1, none⟩) HK.out.1).trans HK.out.2.1; have hc2 := (hb1.cell (p := ⟨w.heap.size, 2, none⟩) HK.out.1).trans HK.out.2.2; have hcx1 := (Below.next0 (hB0 _) hb1).cell (p := ⟨b, o, none⟩) hbl |>.trans hcx; have HB1 := Lib.hid hb1; clear hb1)
        all_goals
          go_ret
          refine ⟨?_, Below.next0 (hB0 _) HB1.out⟩
          show Ending.returned (.bool _) = Ending.returned (.bool _)
          clear HH HK HR HB1 hc1 hc2 hcx h
          congr 2
        all_goals simp_all
        all_goals omega
end Go.Proofs.YtdilmfakkppgpaaGreatDoor
namespace Go.Proofs.YtdilmfakkppgpaaGreatDoor
open Go.RowKit WordsM
theorem dig_len_mono {B u v : Nat} (hB : 2 ≤ B) (h : u ≤ v) : (dig B u).length ≤ (dig B v).length := by
  refine dig_len_le hB (Nat.lt_of_le_of_lt h ?_)
  have h1 := val_lt (B := B) (by omega) (dig B v) (dig_low hB v)
  rwa [val_dig hB] at h1
theorem DigIn.nil_ (w : World) : DigIn w none 0 0 0 := ⟨rfl, Nat.le_refl _, by omega, .inl rfl⟩
end Go.Proofs.YtdilmfakkppgpaaGreatDoor
namespace Go.Proofs.YtdilmfakkppgpaaGreatDoor
open Go.RowKit WordsM
theorem WordsIn.nil_ (w : World) : WordsIn w none 0 0 [] := ⟨rfl, Nat.le_refl _, by omega, fun x hx => by simp at hx, .inl rfl⟩
end Go.Proofs.YtdilmfakkppgpaaGreatDoor
namespace Go.Proofs.YtdilmfakkppgpaaGreatDoor
open Go.RowKit WordsM
section
variable {w w' : World} {B : Nat} {e : TypeId} {k : Nat} {g n c : Nat} {xs : List Value}
theorem Row.cell0 (h : Row w B e k (some ⟨g, 0, none⟩) n c xs) {j : Nat} {x : Value} (hx : xs[j]? = some x) : w.cell? ⟨g, j, none⟩ = some x := by
  obtain ⟨g', e1, _, _, hc⟩ := h.at_ hx
  injection e1 with e1; injection e1 with e1; subst e1
  exact hc
theorem Row.frozen0 (h : Row w B e k (some ⟨g, 0, none⟩) n c xs) (i : Nat) : w.frozen? ⟨g, i, none⟩ = false := by
  rcases h.form with ⟨h0, _⟩ | ⟨g', cur, e1, _, _, hh, _⟩
  · cases h0
  · injection e1 with e1; injection e1 with e1; subst e1
    exact frozen_of_row _ _ _ _ _ hh
theorem Row.set0 (h : Row w B e k (some ⟨g, 0, none⟩) n c xs) (i : Nat) (u : Value) : Row (w.setCell ⟨g, i, none⟩ u) B e k (some ⟨g, 0, none⟩) n c (xs.set i u) := by
  rcases h.form with ⟨h0, _⟩ | ⟨g', cur, e1, hB, hg, hh, hn, hc, hs, ht⟩
  · cases h0
  · injection e1 with e1; injection e1 with e1; subst e1
    refine ⟨by rw [List.length_set]; exact h.1, .inr ⟨g, c, cur.setIfInBounds i u, rfl, hB, heap_setCell_same _ _ _ _ _ _ hh, hn, hc, by simpa using hs, ?_⟩⟩
    rw [Array.toList_setIfInBounds, List.take_set, ht]
theorem Row.fresh (h : Row w B e k (some ⟨g, 0, none⟩) n c xs) : B ≤ g ∧ g < w.heap.size := by
  rcases h.form with ⟨h0, _⟩ | ⟨g', cur, e1, hB, hg, _⟩
  · cases h0
  · injection e1 with e1; injection e1 with e1; subst e1; exact ⟨hB, hg⟩
end
theorem Row.words {w : World} {B : Nat} {a : Option Addr} {n c : Nat} {L : List Nat} (h : Row w B 74 1 a n c (L.map (nv .u64))) (hl : Low (2 ^ 64) L) : WordsIn w a n c L :=
  ⟨by have := h.len; simpa using this, h.cap.1, by have := h.cap.2; simpa [maxLen] using this, hl, Row.rdI h⟩
theorem Row.setW {w : World} {B g n c : Nat} {L : List Nat} (h : Row w B 74 1 (some ⟨g, 0, none⟩) n c (L.map (nv .u64))) (i x : Nat) : Row (w.setCell ⟨g, i, none⟩ (.int .u64 (x : Int))) B 74 1 (some ⟨g, 0, none⟩) n c ((L.set i x).map (nv .u64)) := by
  rw [List.map_set]; exact h.set0 i _
set_option maxRecDepth 100000 in
set_option maxHeartbeats 2000000 in
theorem nattrim_own (a : Option Addr) (n c : Nat) (ls : List Nat) (w : World) (h : WordsIn w a n c ls) (hn : n ≤ 1000000) (h0 : val (2 ^ 64) ls ≠ 0) :
    Calls Tryz.prog 150 #[.slice a n c] w fun e w' => ∃ g c', e = .returned (.slice (some ⟨g, 0, none⟩) (trimL ls).length c') ∧ Row w' w.heap.size 74 1 (some ⟨g, 0, none⟩) (trimL ls).length c' ((trimL ls).map (nv .u64)) ∧ Below w.heap.size w w' := by
  have hc := cut_any a n c ls w h
  have hT := fun W (hb : Below w.heap.size w W) => (h.step hb).trim
  have hne : trimL ls ≠ [] := fun e => h0 (by rw [← val_trim ls, e]; rfl)
  have htl := trim_len ls
  have hln := h.len
  obtain ⟨b, o, rfl⟩ : ∃ b o, a = some ⟨b, o, none⟩ := by
    rcases (hT w (Below.refl _ _)).rd with e | ⟨b, o, e, _⟩
    · exact absurd e hne
    · exact ⟨b, o, e⟩
  obtain ⟨D, hD⟩ : ∃ D, trimL ls = D := ⟨_, rfl⟩
  rw [hD] at hc hT htl hne ⊢
  obtain ⟨i0, hi0, hz0, hz1, hz2⟩ : ∃ i0 : TypeInfo, Tryz.prog.info? 74 = some i0 ∧ i0.zero = some (.int .u64 0) ∧ i0.size = 1 ∧ i0.bytes = 8 := by
    have := info_u64
    cases hi : Tryz.prog.info? 74 with
    | none => rw [hi] at this; cases this
    | some i0 =>
      rw [hi] at this
      simp only [Option.map_some, Option.some.injEq, Prod.mk.injEq] at this
      exact ⟨i0, rfl, this.1, this.2.1, this.2.2⟩
  have hcl := fun W (hW : WordsIn W (some ⟨b, o, none⟩) D.length c D) => Tryz.slices_Clone_f174 i0 (.int .u64 0) 1 8 hi0 hz0 hz1 hz2 rfl (by decide) size_u64 b o D.length c (D.map (nv .u64)) W (by simp) (by unfold maxLen; omega) (by omega) (fun j u hu => by
    rw [List.getElem?_map] at hu
    cases hx : D[j]? with
    | none => rw [hx] at hu; cases hu
    | some x =>
      rw [hx] at hu
      simp only [Option.map_some, Option.some.injEq] at hu
      subst hu
      obtain ⟨b', o', e, _, hc'⟩ := hW.rd.at_ hx
      injection e with e; injection e with e1 e2; subst e1 e2
      exact hc') (nv_one _ _)
  have HC := Lib.hid (And.intro hc (And.intro hT hcl))
  have HN := Lib.hid hne
  clear hc hT hcl h hi0 hz0 hz1 hz2 h0 hD hne
  go_enter Tryz.func150, Tryz.ntmps150
  go_wp2_with (first
    | (go_at_call_of 143 (some ⟨b, o, none⟩ : Option Addr); refine HC.out.1.mono ?_; rintro e w1 ⟨rfl, hb1⟩; have HB1 := Lib.hid hb1; clear hb1)
    | (refine (HC.out.2.2 _ (HC.out.2.1 _ HB1.out)).mono ?_; rintro e w2 ⟨v', rfl, hown, hnn, hb2⟩; have HB2 := Lib.hid (And.intro hown (And.intro hnn hb2)); clear hown hnn hb2))
  go_ret
  obtain ⟨hl, ⟨e, _⟩ | ⟨g, cap, cur, rfl, hg0, hg, hnc, hcm, hcs, htk⟩⟩ := HB2.out.1
  · exact absurd e HB2.out.2.1
  · have hr : Row w2 w1.heap.size 74 1 (some ⟨g, 0, none⟩) D.length cap (D.map (nv .u64)) := ⟨hl, .inr ⟨g, cap, cur, rfl, hg0, hg, hnc, hcm, hcs, htk⟩⟩
    exact ⟨_, _, rfl, hr.lower HB1.out.size, Below.next0 HB1.out HB2.out.2.2⟩
theorem sub64_run (x y b : Nat) (hb : b ≤ 1) (w : World) :
    (callFunc 151 #[.int .u64 x, .int .u64 y, .int .u64 b]).run Tryz.prog w =
      .ok (.value (.tuple #[.int .u64 (((x + 18446744073709551616 - y - b) % 18446744073709551616 : Nat) : Int), .int .u64 ((if x < y + b then 1 else 0 : Nat) : Int)])) w := by
  rw [run_callFunc_extern Tryz.func151 (by kernel_rfl) (by kernel_rfl) (by kernel_rfl) (e := sub64Entry) (by kernel_rfl), run_sub64 x y b hb]
  rfl
theorem sub_step {B : Nat} {L : List Nat} {i x y b b' d V T : Nat} (hx : L[i]? = some x) (h : val B L + T = V + b * B ^ i) (hd : x + b' * B = y + b + d) : val B (L.set i d) + (T + B ^ i * y) = V + b' * B ^ (i + 1) := by
  have h1 := val_set (B := B) L i d x hx
  have h2 : (x + b' * B) * B ^ i = (y + b + d) * B ^ i := by rw [hd]
  rw [Nat.add_mul, Nat.add_mul, Nat.add_mul] at h2
  rw [Nat.pow_succ, Nat.mul_comm (B ^ i) y, Nat.mul_comm (B ^ i) B, ← Nat.mul_assoc]
  omega
theorem sub_digit (x y b : Nat) (hx : x < 18446744073709551616) (hy : y < 18446744073709551616) (hb : b ≤ 1) : ∃ d b', (x + 18446744073709551616 - y - b) % 18446744073709551616 = d ∧ (if x < y + b then 1 else 0) = b' ∧ b' ≤ 1 ∧ d < 18446744073709551616 ∧ x + b' * 2 ^ 64 = y + b + d := by
  refine ⟨_, _, rfl, rfl, by split <;> omega, Nat.mod_lt _ (by decide), ?_⟩
  show x + (if x < y + b then 1 else 0) * 18446744073709551616 = _
  split <;> omega
set_option maxRecDepth 100000 in
set_option maxHeartbeats 4000000 in
theorem natsub_any (a : Option Addr) (n c : Nat) (ls : List Nat) (b : Option Addr) (m d : Nat) (ks : List Nat) (w : World) (h1 : WordsIn w a n c ls) (h2 : WordsIn w b m d ks) (hn : n ≤ 100000) (h0 : val (2 ^ 64) ls ≠ 0) :
    Calls Tryz.prog 102 #[.slice a n c, .slice b m d] w fun e w' => ∃ a' n' c' ok, e = .returned (.tuple #[.slice a' n' c', .bool ok]) ∧ ok = decide (val (2 ^ 64) ks ≤ val (2 ^ 64) ls) ∧ (ok = true → WordsIn w' a' n' c' (dig (2 ^ 64) (val (2 ^ 64) ls - val (2 ^ 64) ks))) ∧ Below w.heap.size w w' := by
  have hl1 := h1.len
  have hl2 := h2.len
  have hcm := natcmp_any a n c ls b m d ks w h1 h2 hn
  have H1 := Lib.hid h1
  have H2 := Lib.hid h2
  clear h1 h2
  by_cases hlt : val (2 ^ 64) ls < val (2 ^ 64) ks
  · have hcm' : Calls Tryz.prog 149 #[.slice a n c, .slice b m d] w fun e w' => (∃ r : Int, e = .returned (.int .i64 r) ∧ r < 0) ∧ Below w.heap.size w w' := by
      refine hcm.mono ?_
      rintro e w' ⟨⟨r, rfl, h3, _⟩, hb⟩
      exact ⟨⟨r, rfl, h3.2 hlt⟩, hb⟩
    have HC := Lib.hid (And.intro hcm' hlt)
    clear hcm hcm' hlt
    go_enter Tryz.func102, Tryz.ntmps102
    go_wp2_with fail
    go_step3
    go_wp2_with (refine HC.out.1.mono ?_; rintro e w1 ⟨⟨r, rfl, hr⟩, hb1⟩; have HB1 := Lib.hid hb1; clear hb1)
    rw [Exit.noGoto_ret]
    refine ⟨rfl, .tuple #[.slice none 0 0, .bool false], by simp [results, go_sem], none, 0, 0, false, rfl, by rw [eq_comm, decide_eq_false_iff_not]; exact Nat.not_le.2 HC.out.2, fun h => (by cases h), HB1.out⟩
  · have hcm' : Calls Tryz.prog 149 #[.slice a n c, .slice b m d] w fun e w' => (∃ r : Int, e = .returned (.int .i64 r) ∧ ¬ r < 0) ∧ Below w.heap.size w w' := by
      refine hcm.mono ?_
      rintro e w' ⟨⟨r, rfl, h3, _⟩, hb⟩
      exact ⟨⟨r, rfl, fun h => hlt (h3.1 h)⟩, hb⟩
    have hle : val (2 ^ 64) ks ≤ val (2 ^ 64) ls := Nat.not_lt.1 hlt
    have htr := fun W (hb : Below w.heap.size w W) => nattrim_own a n c ls W (H1.out.step hb) (by omega) h0
    have htl := trim_len ls
    have htk := trim_len ks
    have HC := Lib.hid (And.intro hcm' (And.intro hle htr))
    clear hcm hcm' hlt hle htr
    go_enter Tryz.func102, Tryz.ntmps102
    go_wp2_with fail
    go_step3
    go_wp2_with (first
      | (go_at_call_of 149 a; refine HC.out.1.mono ?_; rintro e w1 ⟨⟨r, rfl, hr⟩, hb1⟩; have HB1 := Lib.hid hb1; clear hb1)
      | (go_at_call_of 150 a; refine (HC.out.2.2 w1 HB1.out).mono ?_; rintro e w2 ⟨g, c2, rfl, hr2, hb2⟩; have HB2 := Lib.hid (And.intro (hr2.lower HB1.out.size) (Below.next0 HB1.out hb2)); clear hr2 hb2)
      | (go_at_call_of 143 b; refine (cut_any b m d ks _ (H2.out.step HB2.out.2)).mono ?_; rintro e w3 ⟨rfl, hb3⟩; have HB3 := Lib.hid (And.intro (HB2.out.1.call hb3) (Below.next0 HB2.out.2 hb3)); clear hb3))
    have hlowA := trim_low H1.out.low
    have hK := (H2.out.step HB3.out.2).trim
    have hvA := val_trim (B := 2 ^ 64) ls
    have hvK := val_trim (B := 2 ^ 64) ks
    have hfr := HB3.out.1.fresh
    obtain ⟨A, hA⟩ : ∃ A, trimL ls = A := ⟨_, rfl⟩
    obtain ⟨K, hKe⟩ : ∃ K, trimL ks = K := ⟨_, rfl⟩
    rw [hA] at hlowA hvA htl HB3
    rw [hKe] at hK hvK htk
    have hkr := H2.out.rd.step HB3.out.2
    have HA := Lib.hid (And.intro hlowA (And.intro hvA (And.intro hvK hK.low)))
    have HS := Lib.hid (And.intro HB3.out.1 (And.intro HB3.out.2 hfr))
    have hKrd : RdI .u64 w w.heap.size b K := by
      rw [← hKe, ← trim_take ks]; exact H2.out.rd.front _
    have HK := Lib.hid hKrd
    have hKA : K.length ≤ A.length := by
      rw [← hA, ← hKe, trim_dig (by decide) H1.out.low, trim_dig (by decide) H2.out.low]
      exact dig_len_mono (by decide) HC.out.2.1
    have HLE := Lib.hid HC.out.2.1
    rw [hA, hKe]
    clear hlowA hK hvA hvK hfr hkr hKrd HB1 HB2 HB3 HC hA hKe
    go_loopw [7, 20] (fun cv iv wr => ∃ (i br : Nat) (L : List Nat), cv = .int .u64 (br : Int) ∧ iv = .int .i64 (i : Int) ∧ i ≤ K.length ∧ br ≤ 1 ∧ Row wr w.heap.size 74 1 (some ⟨g, 0, none⟩) A.length c2 (L.map (nv .u64)) ∧ L.length = A.length ∧ Low (2 ^ 64) L ∧ val (2 ^ 64) L + val (2 ^ 64) (K.take i) = val (2 ^ 64) A + br * (2 ^ 64) ^ i ∧ Below w.heap.size w wr) (fun _ iv _ => K.length - (intOf iv).toNat)
    case atStart => exact ⟨0, 0, A, rfl, rfl, Nat.zero_le _, Nat.zero_le _, HS.out.1, rfl, HA.out.1, by simp [val], HS.out.2.1⟩
    case round =>
      obtain ⟨i, br, L, rfl, rfl, hi, hbr, hL, hLl, hLow, hval, hbw⟩ := hrel
      by_cases hlt : i < K.length
      · have hlt' : (i : Int) < (K.length : Int) := by omega
        obtain ⟨x, hx⟩ : ∃ x, L[i]? = some x := ⟨_, List.getElem?_eq_getElem (by omega)⟩
        obtain ⟨y, hy⟩ : ∃ y, K[i]? = some y := ⟨_, List.getElem?_eq_getElem (by omega)⟩
        obtain ⟨b2, o2, rfl, hb2, hcy⟩ := (HK.out.below hbw).at_ hy
        have hxl : x < 18446744073709551616 := hLow x (List.mem_of_getElem? hx)
        have hyl : y < 18446744073709551616 := HA.out.2.2.2 y (List.mem_of_getElem? hy)
        obtain ⟨z, c3, hz, hc3, hc3l, hzl, hsd⟩ := sub_digit x y br hxl hyl hbr
        have hsub := fun W => sub64_run x y br hbr W
        rw [hz, hc3] at hsub
        have hstep := sub_step hx hval hsd
        have HST := Lib.hid hstep
        clear hz hc3 hstep hsd
        have hcell := Row.cell0 hL (j := i) (x := .int .u64 (x : Int)) (by rw [List.getElem?_map, hx]; rfl)
        have cx : wr.drew.cell? ⟨g, i, none⟩ = some (.int .u64 (x : Int)) := hcell
        have cy : wr.drew.cell? ⟨b2, o2 + i, none⟩ = some (.int .u64 (y : Int)) := hcy
        have fx : wr.drew.frozen? ⟨g, i, none⟩ = false := hL.frozen0 i
        have hiA : (i : Int) < (A.length : Int) := by omega
        have HH := Lib.hid (And.intro hL (And.intro hLow (And.intro hbw hy)))
        clear hL hLow hval hbw hx hy hcy hcell
        go_wp2_with fail
        go_region_law (fail)
        all_goals go_wp2_with fail
        all_goals
          obtain ⟨hL, hLow, hbw, hy⟩ := HH.out
          refine ⟨⟨i + 1, c3, L.set i z, rfl, by simp, by omega, hc3l, hL.setW i z, by simp [hLl], low_set hLow hzl, ?_, (hbw.setCell (p := ⟨g, i, none⟩) HS.out.2.2.1 _).drew⟩, by simp only [intOf]; omega⟩
          rw [val_take_snoc K i y hy, HST.out]
      · obtain rfl : i = K.length := by omega
        have hlt' : ¬ ((K.length : Int) < (K.length : Int)) := by omega
        rw [List.take_length] at hval
        have HH := Lib.hid (And.intro hL (And.intro hLow (And.intro hval hbw)))
        clear hL hLow hval hbw
        go_wp2_with fail
        go_step3
        go_wp2_with fail
        go_loopw [7, 9] (fun cv iv wr => ∃ (j br : Nat) (L : List Nat), cv = .int .u64 (br : Int) ∧ iv = .int .i64 (j : Int) ∧ j ≤ A.length ∧ br ≤ 1 ∧ Row wr w.heap.size 74 1 (some ⟨g, 0, none⟩) A.length c2 (L.map (nv .u64)) ∧ L.length = A.length ∧ Low (2 ^ 64) L ∧ val (2 ^ 64) L + val (2 ^ 64) K = val (2 ^ 64) A + br * (2 ^ 64) ^ j ∧ Below w.heap.size w wr) (fun _ iv _ => A.length - (intOf iv).toNat)
        case atStart => exact ⟨K.length, br, L, rfl, rfl, hKA, hbr, HH.out.1, hLl, HH.out.2.1, HH.out.2.2.1, HH.out.2.2.2⟩
        case round =>
          clear hLl hbr HH
          obtain ⟨j, br, L, rfl, rfl, hj, hbr, hL, hLl, hLow, hval, hbw⟩ := hrel
          by_cases hend : j < A.length ∧ br = 1
          · obtain ⟨hlt, rfl⟩ := hend
            have hlt' : (j : Int) < (A.length : Int) := by omega
            obtain ⟨x, hx⟩ : ∃ x, L[j]? = some x := ⟨_, List.getElem?_eq_getElem (by omega)⟩
            have hxl : x < 18446744073709551616 := hLow x (List.mem_of_getElem? hx)
            obtain ⟨z, c3, hz, hc3, hc3l, hzl, hsd⟩ := sub_digit x 0 1 hxl (by decide) (by decide)
            have hsub : ∀ W, (callFunc 151 #[.int .u64 (x : Int), .int .u64 0, .int .u64 1]).run Tryz.prog W = .ok (.value (.tuple #[.int .u64 (z : Int), .int .u64 (c3 : Int)])) W := fun W => by
              have := sub64_run x 0 1 (by decide) W
              rw [hz, hc3] at this
              exact this
            have hstep := sub_step hx hval hsd
            rw [Nat.mul_zero, Nat.add_zero] at hstep
            have cx : wr.cell? ⟨g, j, none⟩ = some (.int .u64 (x : Int)) := Row.cell0 hL (j := j) (x := .int .u64 (x : Int)) (by rw [List.getElem?_map, hx]; rfl)
            have fx : wr.frozen? ⟨g, j, none⟩ = false := hL.frozen0 j
            have HST := Lib.hid (And.intro hstep (And.intro hL (And.intro hLow hbw)))
            clear hz hc3 hstep hL hLow hval hbw hx hsd
            go_wp2_with fail
            exact ⟨⟨j + 1, c3, L.set j z, rfl, by simp, by omega, hc3l, HST.out.2.1.setW j z, by simp [hLl], low_set HST.out.2.2.1 hzl, HST.out.1, HST.out.2.2.2.setCell (p := ⟨g, j, none⟩) HS.out.2.2.1 _⟩, by simp only [intOf]; omega⟩
          · have hb0 : br = 0 := by
              rcases Nat.lt_or_ge br 1 with h | h
              · omega
              · exfalso
                obtain rfl : br = 1 := by omega
                obtain rfl : j = A.length := by
                  refine Nat.le_antisymm hj (Nat.not_lt.1 fun h' => hend ⟨h', rfl⟩)
                have h1 := val_lt (B := 2 ^ 64) (by decide) L hLow
                rw [hLl] at h1
                have h2 := HLE.out
                rw [← HA.out.2.1, ← HA.out.2.2.1] at h2
                omega
            subst hb0
            rw [Nat.zero_mul, Nat.add_zero] at hval
            have hvl : val (2 ^ 64) L = val (2 ^ 64) ls - val (2 ^ 64) ks := by rw [← HA.out.2.1, ← HA.out.2.2.1]; omega
            have hW := hL.words hLow
            have hdig : trimL L = dig (2 ^ 64) (val (2 ^ 64) ls - val (2 ^ 64) ks) := by rw [trim_dig (by decide) hLow, hvl]
            have hok : (true : Bool) = decide (val (2 ^ 64) ks ≤ val (2 ^ 64) ls) := (decide_eq_true HLE.out).symm
            have HE := Lib.hid (And.intro hW (And.intro hbw (And.intro hdig hok)))
            clear hvl hW hbw hdig hok hval hL hLow hend
            by_cases hlt : j < A.length
            · have hlt' : (j : Int) < (A.length : Int) := by omega
              go_wp2_with (refine (cut_any _ _ _ _ _ HE.out.1).mono ?_; rintro e w5 ⟨rfl, hb5⟩; have HB5 := Lib.hid hb5; clear hb5)
              rw [Exit.noGoto_ret]
              have hout := (HE.out.1.step HB5.out).trim
              rw [HE.out.2.2.1] at hout ⊢
              exact ⟨rfl, .tuple #[.slice (some ⟨g, 0, none⟩) (dig (2 ^ 64) (val (2 ^ 64) ls - val (2 ^ 64) ks)).length c2, .bool true], by simp [results, go_sem], _, _, _, true, rfl, HE.out.2.2.2, fun _ => hout, Below.next0 HE.out.2.1 HB5.out⟩
            · obtain rfl : j = A.length := by omega
              have hlt' : ¬ ((A.length : Int) < (A.length : Int)) := by omega
              go_wp2_with (refine (cut_any _ _ _ _ _ HE.out.1).mono ?_; rintro e w5 ⟨rfl, hb5⟩; have HB5 := Lib.hid hb5; clear hb5)
              rw [Exit.noGoto_ret]
              have hout := (HE.out.1.step HB5.out).trim
              rw [HE.out.2.2.1] at hout ⊢
              exact ⟨rfl, .tuple #[.slice (some ⟨g, 0, none⟩) (dig (2 ^ 64) (val (2 ^ 64) ls - val (2 ^ 64) ks)).length c2, .bool true], by simp [results, go_sem], _, _, _, true, rfl, HE.out.2.2.2, fun _ => hout, Below.next0 HE.out.2.1 HB5.out⟩
end Go.Proofs.YtdilmfakkppgpaaGreatDoor
namespace Go.Proofs.YtdilmfakkppgpaaGreatDoor
open Go.RowKit WordsM
theorem below_drewN {B : Nat} {a w : World} (h : Below B a w) (k : Nat) : Below B a (w.drewN k) := ⟨h.os, h.tape, h.output, h.size, h.block⟩
theorem box_at (w : World) (neg : Bool) (exp : Int) (a : Option Addr) (n c : Nat) (T : TypeId) :
    w.heap.size < (w.alloc (.cells #[.bool neg, .int .i64 exp, .slice a n c] T)).heap.size ∧ (w.alloc (.cells #[.bool neg, .int .i64 exp, .slice a n c] T)).cell? ⟨w.heap.size, 0, none⟩ = some (.bool neg) ∧ (w.alloc (.cells #[.bool neg, .int .i64 exp, .slice a n c] T)).cell? ⟨w.heap.size, 1, none⟩ = some (.int .i64 exp) ∧ (w.alloc (.cells #[.bool neg, .int .i64 exp, .slice a n c] T)).cell? ⟨w.heap.size, 2, none⟩ = some (.slice a n c) :=
  ⟨(Array.getElem?_eq_some_iff.1 (heap_alloc_new w _)).1, by rw [cell_of_row _ _ _ _ _ _ (heap_alloc_new _ _)]; rfl, by rw [cell_of_row _ _ _ _ _ _ (heap_alloc_new _ _)]; rfl, by rw [cell_of_row _ _ _ _ _ _ (heap_alloc_new _ _)]; rfl⟩
set_option maxRecDepth 100000 in
set_option maxHeartbeats 2000000 in
theorem numsame_any (neg : Bool) (exp : Int) (a : Option Addr) (n c : Nat) (ls : List Nat) (neg' : Bool) (exp' : Int) (b : Option Addr) (m d : Nat) (ks : List Nat) (w : World) (h1 : WordsIn w a n c ls) (h2 : WordsIn w b m d ks) (hn : n ≤ 9223372036854775807) :
    Calls Tryz.prog 19 #[.agg #[.bool neg, .int .i64 exp, .slice a n c], .agg #[.bool neg', .int .i64 exp', .slice b m d]] w fun e w' => e = .returned (.bool (decide (neg = neg' ∧ exp = exp' ∧ ls = ks))) ∧ Below w.heap.size w w' := by
  have hl1 := h1.len
  have hl2 := h2.len
  by_cases hneq : neg = neg' ∧ exp = exp' ∧ n = m
  · obtain ⟨rfl, rfl, rfl⟩ := hneq
    have hdec : decide (neg = neg ∧ exp = exp ∧ ls = ks) = decide (ls = ks) := by simp
    rw [hdec]
    clear hdec
    have H1 := Lib.hid h1
    have H2 := Lib.hid h2
    clear h1 h2
    go_enter Tryz.func19, Tryz.ntmps19
    go_wp2_with fail
    obtain ⟨W2, hW2⟩ : ∃ W2, (w.alloc (.cells #[.bool neg, .int .i64 exp, .slice a n c] 41)).alloc (.cells #[.bool neg, .int .i64 exp, .slice b n d] 41) = W2 := ⟨_, rfl⟩
    have hb1 : Below w.heap.size w W2 := by rw [← hW2]; exact Below.next0 ((Below.refl _ _).alloc (Nat.le_refl _) _) ((Below.refl _ _).alloc (Nat.le_refl _) _)
    have hsz : (w.alloc (.cells #[.bool neg, .int .i64 exp, .slice a n c] 41)).heap.size = w.heap.size + 1 := Array.size_push ..
    have hx1 := box_at w neg exp a n c 41
    have hx2 := box_at (w.alloc (.cells #[.bool neg, .int .i64 exp, .slice a n c] 41)) neg exp b n d 41
    have hy1 : W2.cell? ⟨w.heap.size, 2, none⟩ = some (.slice a n c) := by
      rw [← hW2]
      exact ((Below.alloc (Below.refl _ _) (Nat.le_refl _) _).cell (p := ⟨w.heap.size, 2, none⟩) hx1.1).trans hx1.2.2.2
    have hy2 : W2.cell? ⟨w.heap.size + 1, 2, none⟩ = some (.slice b n d) := by
      rw [← hW2, ← hsz]
      exact hx2.2.2.2
    have hs2 : w.heap.size + 1 < W2.heap.size := by rw [← hW2, ← hsz]; exact hx2.1
    rw [hW2]
    clear hx1 hx2 hW2 hsz
    have HX := Lib.hid (And.intro hy1 (And.intro hy2 (And.intro hb1 hs2)))
    clear hy1 hy2 hb1 hs2
    go_loopw [30] (fun v wr => ∃ i : Nat, v = .int .i64 (i : Int) ∧ i ≤ n ∧ (∀ j, j < i → ls[j]? = ks[j]?) ∧ Below W2.heap.size W2 wr) (fun v _ => n - (intOf v).toNat)
    case atStart => exact ⟨0, rfl, Nat.zero_le _, fun j h => absurd h (Nat.not_lt_zero _), Below.refl _ _⟩
    case round =>
      obtain ⟨i, rfl, hi, hpre, hb⟩ := hrel
      have hbw : Below w.heap.size w wr := Below.next0 HX.out.2.2.1 hb
      have hc1 : wr.cell? ⟨w.heap.size, 2, none⟩ = some (.slice a n c) := (hb.cell (p := ⟨w.heap.size, 2, none⟩) (by have := HX.out.2.2.2; show w.heap.size < _; omega)).trans HX.out.1
      have hc2 : wr.cell? ⟨w.heap.size + 1, 2, none⟩ = some (.slice b n d) := (hb.cell (p := ⟨w.heap.size + 1, 2, none⟩) HX.out.2.2.2).trans HX.out.2.1
      by_cases hlt : i < n
      · have hlt' : (i : Int) < (n : Int) := by omega
        obtain ⟨x, hx⟩ : ∃ x, ls[i]? = some x := ⟨_, List.getElem?_eq_getElem (by omega)⟩
        obtain ⟨y, hy⟩ : ∃ y, ks[i]? = some y := ⟨_, List.getElem?_eq_getElem (by omega)⟩
        obtain ⟨g1, o1, rfl, hg1, hcx⟩ := (H1.out.rd.below hbw).at_ hx
        obtain ⟨g2, o2, rfl, hg2, hcy⟩ := (H2.out.rd.below hbw).at_ hy
        have HP := Lib.hid (And.intro hpre (And.intro hb (And.intro hbw (And.intro hx hy))))
        clear hpre hb hbw hx hy
        by_cases hxy : x = y
        · subst hxy
          go_wp2_with fail
          go_quiet (fail)
          go_wp2_with fail
          refine ⟨⟨i + 1, by simp, by omega, fun j hj => ?_, below_drewN HP.out.2.1 nq⟩, by simp only [intOf]; omega⟩
          by_cases hji : j = i
          · subst hji; rw [HP.out.2.2.2.1, HP.out.2.2.2.2]
          · exact HP.out.1 j (by omega)
        · have hxy' : ((x : Int) == (y : Int)) = false := by rw [beq_eq_false_iff_ne]; omega
          have hxy2 : ((x : Int) != (y : Int)) = true := by simp [bne, hxy']
          go_wp2_with fail
          go_quiet (fail)
          go_wp2_with fail
          go_ret
          have hne : ¬ ls = ks := fun e => hxy (by have h1 := HP.out.2.2.2.1; have h2 := HP.out.2.2.2.2; rw [e, h2] at h1; injection h1 with h1; exact h1.symm)
          exact ⟨by rw [decide_eq_false hne]; rfl, below_drewN HP.out.2.2.1 nq⟩
      · obtain rfl : i = n := by omega
        have hlt' : ¬ ((i : Int) < (i : Int)) := by omega
        have heq : ls = ks := same_all (fun j hj => hpre j (by omega)) (by omega)
        have HE := Lib.hid (And.intro heq hbw)
        clear heq hbw hb hpre
        go_wp2_with fail
        go_ret
        exact ⟨by rw [decide_eq_true HE.out.1]; rfl, HE.out.2⟩
  · have hdec : decide (neg = neg' ∧ exp = exp' ∧ ls = ks) = false := by
      rw [decide_eq_false_iff_not]
      rintro ⟨e1, e2, e3⟩
      exact hneq ⟨e1, e2, by rw [← hl1, ← hl2, e3]⟩
    rw [hdec]
    have hB : Below w.heap.size w ((w.alloc (.cells #[.bool neg, .int .i64 exp, .slice a n c] 41)).alloc (.cells #[.bool neg', .int .i64 exp', .slice b m d] 41)) := Below.next0 ((Below.refl _ _).alloc (Nat.le_refl _) _) ((Below.refl _ _).alloc (Nat.le_refl _) _)
    have HB := Lib.hid hB
    clear hB hdec h1 h2
    by_cases e1 : neg = neg'
    · subst e1
      by_cases e2 : exp = exp'
      · subst e2
        have e3 : ¬ ((n : Int) = (m : Int)) := by intro e; exact hneq ⟨rfl, rfl, by omega⟩
        have e3' : ((n : Int) == (m : Int)) = false := by rw [beq_eq_false_iff_ne]; exact e3
        go_enter Tryz.func19, Tryz.ntmps19
        go_wp2_with fail
        go_ret
        exact ⟨rfl, HB.out⟩
      · have e2' : (exp == exp') = false := by rw [beq_eq_false_iff_ne]; exact e2
        go_enter Tryz.func19, Tryz.ntmps19
        go_wp2_with fail
        go_ret
        exact ⟨rfl, HB.out⟩
    · have e1' : (neg == neg') = false := by rw [beq_eq_false_iff_ne]; exact e1
      go_enter Tryz.func19, Tryz.ntmps19
      go_wp2_with fail
      go_ret
      exact ⟨rfl, HB.out⟩
end Go.Proofs.YtdilmfakkppgpaaGreatDoor
