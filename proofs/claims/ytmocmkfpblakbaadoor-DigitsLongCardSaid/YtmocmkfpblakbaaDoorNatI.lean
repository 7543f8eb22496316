/- The walk of the words' Cmp. Condition: the arguments lie as slices of words, not too long. -/
/- The walk of the words' Div by one great word. Condition: the argument lies as a slice of words, not too long, not 0; the divisor is one word, its highest bit set. -/
import Derived.Test.YtmocmkfpblakbaaDoorNatB
import Derived.Test.YtmocmkfpblakbaaDoorWordsM2
import Derived.BigQuiet
import Derived.Test.YtmocmkfpblakbaaDoorNatD
import Derived.Test.YtmocmkfpblakbaaDoorNatE
namespace Go.Proofs.YtmocmkfpblakbaaDoor
open Go.RowKit WordsM

theorem isnan_u (x : Nat) (w : World) : Calls Tryd.prog 93 #[.int .u64 (x : Int)] w fun e w' => e = .returned (.bool false) ∧ w = w' := by
  go_enter Tryd.func93, Tryd.ntmps93
  go_wp2_with fail
  go_ret
  exact ⟨by simp, rfl⟩
theorem compare_u (x y : Nat) (w : World) : Calls Tryd.prog 74 #[.int .u64 (x : Int), .int .u64 (y : Int)] w fun e w' => e = .returned (.int .i64 (Lib.compareInt x y)) ∧ w = w' := by
  have hn := fun x => isnan_u x w
  by_cases h1 : (x : Int) < (y : Int)
  · go_enter Tryd.func74, Tryd.ntmps74
    go_wp2_with (refine (hn _).mono ?_; rintro e w1 ⟨rfl, rfl⟩)
    go_ret
    exact ⟨by simp [Lib.compareInt, h1], rfl⟩
  · by_cases h2 : (y : Int) < (x : Int)
    · go_enter Tryd.func74, Tryd.ntmps74
      go_wp2_with (refine (hn _).mono ?_; rintro e w1 ⟨rfl, rfl⟩)
      go_ret
      exact ⟨by rw [Lib.compareInt, if_neg (by omega), if_pos (by omega)]; rfl, rfl⟩
    · go_enter Tryd.func74, Tryd.ntmps74
      go_wp2_with (refine (hn _).mono ?_; rintro e w1 ⟨rfl, rfl⟩)
      go_ret
      exact ⟨by rw [Lib.compareInt, if_neg (by omega), if_neg (by omega)]; rfl, rfl⟩
theorem dig_len_mono64 {B u v : Nat} (hB : 2 ≤ B) (h : u ≤ v) : (dig B u).length ≤ (dig B v).length := by
  refine dig_len_le hB (Nat.lt_of_le_of_lt h ?_)
  have h1 := val_lt (B := B) (by omega) (dig B v) (dig_low hB v)
  rwa [val_dig hB] at h1
theorem val_top {B : Nat} (hB : 0 < B) {A K : List Nat} {j x y : Nat} (hA : Low B A) (hx : A[j]? = some x) (hy : K[j]? = some y) (hd : A.drop (j + 1) = K.drop (j + 1)) (hlt : x < y) : val B A < val B K := by
  have hja : j < A.length := (List.getElem?_eq_some_iff.1 hx).1
  have hjk : j < K.length := (List.getElem?_eq_some_iff.1 hy).1
  have h1 := val_take_drop (B := B) A j
  have h2 := val_take_drop (B := B) K j
  rw [List.drop_eq_getElem_cons hja, (List.getElem?_eq_some_iff.1 hx).2] at h1
  rw [List.drop_eq_getElem_cons hjk, (List.getElem?_eq_some_iff.1 hy).2, ← hd] at h2
  simp only [val] at h1 h2
  have h3 := val_lt hB (A.take j) fun z hz => hA z (List.mem_of_mem_take hz)
  rw [List.length_take, Nat.min_eq_left (by omega)] at h3
  generalize val B (A.drop (j + 1)) = R at *
  have h4 : B ^ j * (x + B * R + 1) ≤ B ^ j * (y + B * R) := Nat.mul_le_mul_left _ (by omega)
  rw [Nat.mul_add (B ^ j) (x + B * R) 1, Nat.mul_one] at h4
  omega
set_option maxRecDepth 100000 in
set_option maxHeartbeats 4000000 in
theorem natcmp_any (a : Option Addr) (n c : Nat) (ls : List Nat) (b : Option Addr) (m d : Nat) (ks : List Nat) (w : World) (h1 : WordsIn w a n c ls) (h2 : WordsIn w b m d ks) (hn : n ≤ 100000) :
    Calls Tryd.prog 53 #[.slice a n c, .slice b m d] w fun e w' => (∃ r : Int, e = .returned (.int .i64 r) ∧ (r < 0 ↔ val (2 ^ 64) ls < val (2 ^ 64) ks) ∧ (0 < r ↔ val (2 ^ 64) ks < val (2 ^ 64) ls)) ∧ Below w.heap.size w w' := by
  have hl1 := h1.len
  have hl2 := h2.len
  have ht1 := trim_len ls
  have ht2 := trim_len ks
  have hv1 : val (2 ^ 64) (trimL ls) = val (2 ^ 64) ls := val_trim ls
  have hv2 : val (2 ^ 64) (trimL ks) = val (2 ^ 64) ks := val_trim ks
  have hd1 := trim_dig (B := 2 ^ 64) (by decide) h1.low
  have hd2 := trim_dig (B := 2 ^ 64) (by decide) h2.low
  have hc1 := fun W (hb : Below w.heap.size w W) => cut_any a n c ls W (h1.step hb)
  have hc2 := fun W (hb : Below w.heap.size w W) => cut_any b m d ks W (h2.step hb)
  have hw1 := fun W (hb : Below w.heap.size w W) => (h1.step hb).trim
  have hw2 := fun W (hb : Below w.heap.size w W) => (h2.step hb).trim
  rw [← hv1, ← hv2]
  rw [← hv1] at hd1
  rw [← hv2] at hd2
  obtain ⟨A, hA⟩ : ∃ A, trimL ls = A := ⟨_, rfl⟩
  obtain ⟨K, hK⟩ : ∃ K, trimL ks = K := ⟨_, rfl⟩
  rw [hA] at ht1 hc1 hw1 hd1 ⊢
  rw [hK] at ht2 hc2 hw2 hd2 ⊢
  have HC := Lib.hid (And.intro hc1 hc2)
  have HW := Lib.hid (And.intro hw1 hw2)
  have hlenL : A.length < K.length → val (2 ^ 64) A < val (2 ^ 64) K := fun h => Nat.lt_of_not_le fun hle => by
    have h3 := dig_len_mono64 (B := 2 ^ 64) (by decide) hle
    rw [← hd1, ← hd2] at h3; omega
  have hlenR : K.length < A.length → val (2 ^ 64) K < val (2 ^ 64) A := fun h => Nat.lt_of_not_le fun hle => by
    have h3 := dig_len_mono64 (B := 2 ^ 64) (by decide) hle
    rw [← hd1, ← hd2] at h3; omega
  have HL := Lib.hid (And.intro hlenL hlenR)
  clear hA hK hv1 hv2 hc1 hc2 hw1 hw2 h1 h2 hd1 hd2 hlenL hlenR
  by_cases hne : A.length = K.length
  · have hneI : ((A.length : Int) != (K.length : Int)) = false := by rw [hne]; simp
    go_enter Tryd.func53, Tryd.ntmps53
    go_wp2_with (first
      | (go_at_call_of 36 a; refine (HC.out.1 _ (Below.refl _ _)).mono ?_; rintro e w1 ⟨rfl, hb1⟩; have HB1 := Lib.hid hb1; clear hb1)
      | (go_at_call_of 36 b; refine (HC.out.2 _ HB1.out).mono ?_; rintro e w2 ⟨rfl, hb2⟩; have HB2 := Lib.hid (Below.next0 HB1.out hb2); clear hb2))
    have HWA := Lib.hid (And.intro (HW.out.1 w2 HB2.out) (HW.out.2 w2 HB2.out))
    clear HW HC HL HB1
    go_loopw [5] (fun iv wr => ∃ j : Nat, iv = .int .i64 ((j : Int) - 1) ∧ j ≤ A.length ∧ A.drop j = K.drop j ∧ Below w2.heap.size w2 wr) (fun iv _ => (intOf iv + 1).toNat)
    case atStart => exact ⟨A.length, by rw [hne], Nat.le_refl _, by rw [List.drop_length, List.drop_eq_nil_of_le (by omega)], Below.refl _ _⟩
    case round =>
      obtain ⟨j, rfl, hj, hdr, hb⟩ := hrel
      cases j with
      | zero =>
        have heq : A = K := by simpa using hdr
        have hbq := Below.next0 HB2.out hb
        have HE := Lib.hid (And.intro heq hbq)
        clear hdr heq hb hbq
        go_wp2_with fail
        go_ret
        exact ⟨⟨0, rfl, by rw [HE.out.1]; simp, by rw [HE.out.1]; simp⟩, HE.out.2⟩
      | succ j =>
        obtain ⟨x, hx⟩ : ∃ x, A[j]? = some x := ⟨_, List.getElem?_eq_getElem (by omega)⟩
        obtain ⟨y, hy⟩ : ∃ y, K[j]? = some y := ⟨_, List.getElem?_eq_getElem (by omega)⟩
        obtain ⟨g1, o1, hae, hg1, hcx⟩ := (HWA.out.1.rd.below hb).at_ hx
        obtain ⟨g2, o2, hbe, hg2, hcy⟩ := (HWA.out.2.rd.below hb).at_ hy
        subst hae hbe
        have hjI : ((j + 1 : Nat) : Int) - 1 = (j : Int) := by omega
        have hjA : (j : Int) < (A.length : Int) := by omega
        have hjK : (j : Int) < (K.length : Int) := by omega
        have HH := Lib.hid (And.intro hdr (And.intro hb (And.intro hx hy)))
        clear hdr hb hx hy
        rw [hjI]
        by_cases hxy : x = y
        · subst hxy
          have hxx : ((x : Int) != (x : Int)) = false := by simp
          go_wp2_with fail
          go_quiet (fail)
          go_wp2_with fail
          refine ⟨⟨j, rfl, by omega, ?_, ⟨HH.out.2.1.os, HH.out.2.1.tape, HH.out.2.1.output, HH.out.2.1.size, HH.out.2.1.block⟩⟩, by simp only [intOf]; omega⟩
          have h1 := HH.out.1
          have e1 := (List.getElem?_eq_some_iff.1 HH.out.2.2.1)
          have e2 := (List.getElem?_eq_some_iff.1 HH.out.2.2.2)
          rw [List.drop_eq_getElem_cons e1.1, List.drop_eq_getElem_cons e2.1, e1.2, e2.2, h1]
        · have hxx : ((x : Int) != (y : Int)) = true := by rw [bne_iff_ne]; omega
          have hcu : ∀ W, Calls Tryd.prog 74 #[.int .u64 (x : Int), .int .u64 (y : Int)] W fun e w' => e = .returned (.int .i64 (Lib.compareInt x y)) ∧ ∃ n, w' = W.drewN n := fun W => (compare_u x y W).mono (by rintro e w' ⟨rfl, rfl⟩; exact ⟨rfl, 0, rfl⟩)
          go_wp2_with fail
          go_quiet (fail)
          obtain ⟨W5, hW5⟩ : ∃ W5, wr.drewN nq = W5 := ⟨_, rfl⟩
          have hcx2 : W5.cell? ⟨g1, o1 + j, none⟩ = some (.int .u64 (x : Int)) := by rw [← hW5, World.cell?_drewN]; exact hcx
          have hcy2 : W5.cell? ⟨g2, o2 + j, none⟩ = some (.int .u64 (y : Int)) := by rw [← hW5, World.cell?_drewN]; exact hcy
          have hb5 : Below w2.heap.size w2 W5 := by rw [← hW5]; exact ⟨HH.out.2.1.os, HH.out.2.1.tape, HH.out.2.1.output, HH.out.2.1.size, HH.out.2.1.block⟩
          have HB5 := Lib.hid hb5
          rw [hW5]
          clear hW5 hb5
          go_wp2_with fail
          go_quiet (first | (refine Calls.quiet_of (hcu _)))
          go_wp2_with fail
          go_ret
          have hbq := Below.next0 HB2.out HB5.out
          refine ⟨⟨_, rfl, ?_⟩, ⟨hbq.os, hbq.tape, hbq.output, hbq.size, hbq.block⟩⟩
          unfold Lib.compareInt
          by_cases hlt : x < y
          · have := val_top (B := 2 ^ 64) (by decide) HWA.out.1.low HH.out.2.2.1 HH.out.2.2.2 HH.out.1 hlt
            rw [if_pos (by omega)]
            exact ⟨⟨fun _ => this, fun _ => by decide⟩, ⟨fun h => by simp at h, fun h => by omega⟩⟩
          · have := val_top (B := 2 ^ 64) (by decide) HWA.out.2.low HH.out.2.2.2 HH.out.2.2.1 HH.out.1.symm (by omega)
            rw [if_neg (by omega), if_pos (by omega)]
            exact ⟨⟨fun h => by simp at h, fun h => by omega⟩, ⟨fun _ => this, fun _ => by decide⟩⟩
  · have hneI : ((A.length : Int) != (K.length : Int)) = true := by rw [bne_iff_ne]; omega
    have hcm := fun W => Tryd.cmp_Compare_int (A.length : Int) (K.length : Int) W
    go_enter Tryd.func53, Tryd.ntmps53
    go_wp2_with (first
      | (go_at_call_of 36 a; refine (HC.out.1 _ (Below.refl _ _)).mono ?_; rintro e w1 ⟨rfl, hb1⟩; have HB1 := Lib.hid hb1; clear hb1)
      | (go_at_call_of 36 b; refine (HC.out.2 _ HB1.out).mono ?_; rintro e w2 ⟨rfl, hb2⟩; have HB2 := Lib.hid (Below.next0 HB1.out hb2); clear hb2)
      | (refine (hcm _).mono ?_; rintro e w3 ⟨rfl, hw3⟩; obtain rfl := hw3.symm))
    go_ret
    refine ⟨⟨_, rfl, ?_⟩, HB2.out⟩
    unfold Lib.compareInt
    by_cases hlt : A.length < K.length
    · have := HL.out.1 hlt
      rw [if_pos (by omega)]
      exact ⟨⟨fun _ => this, fun _ => by decide⟩, ⟨fun h => by simp at h, fun h => by omega⟩⟩
    · have := HL.out.2 (by omega)
      rw [if_neg (by omega), if_pos (by omega)]
      exact ⟨⟨fun h => by simp at h, fun h => by omega⟩, ⟨fun _ => this, fun _ => by decide⟩⟩
end Go.Proofs.YtmocmkfpblakbaaDoor
namespace Go.Proofs.YtmocmkfpblakbaaDoor
open Go.RowKit WordsM

theorem dig_one {d : Nat} (h : d < 2 ^ 64) (h0 : d ≠ 0) : dig (2 ^ 64) d = [d] := by rw [dig_step (by decide) h0, Nat.mod_eq_of_lt h, Nat.div_eq_of_lt h, dig_zero]
theorem words_1 (w : World) (m : Nat) (hm : m < 18446744073709551616) (T : TypeId) : WordsIn (w.alloc (.cells #[.int .u64 (m : Int)] T)) (some ⟨w.heap.size, 0, none⟩) 1 1 [m] :=
  ⟨rfl, Nat.le_refl _, by omega, fun x hx => by rw [List.mem_singleton] at hx; subst hx; exact hm, .inr ⟨w.heap.size, 0, rfl, by rw [World.size_alloc]; omega, fun j x hx => by
    cases j with
    | zero => simp only [List.getElem?_cons_zero, Option.some.injEq] at hx; subst hx; rw [cell_of_row _ _ _ _ _ _ (heap_alloc_new _ _)]; rfl
    | succ j => simp at hx⟩⟩
theorem val_1 (B m : Nat) : val B [m] = m := by simp [val]
set_option maxRecDepth 100000 in
set_option maxHeartbeats 4000000 in
theorem natdiv1_any (a : Option Addr) (n c : Nat) (ls : List Nat) (b : Option Addr) (cb : Nat) (d : Nat) (w : World) (h1 : WordsIn w a n c ls) (h2 : WordsIn w b 1 cb [d]) (hn : n ≤ 100000) (hd : 9223372036854775808 ≤ d) (hv0 : val (2 ^ 64) ls ≠ 0) :
    Calls Tryd.prog 40 #[.slice a n c, .slice b 1 cb] w fun e w' => ∃ aq nq cq ar nr cr, e = .returned (.tuple #[.slice aq nq cq, .slice ar nr cr, .bool true]) ∧ WordsIn w' aq nq cq (dig (2 ^ 64) (val (2 ^ 64) ls / d)) ∧ WordsIn w' ar nr cr (dig (2 ^ 64) (val (2 ^ 64) ls % d)) ∧ Below w.heap.size w w' ∧ ∀ x, aq = some x → w.heap.size ≤ x.block := by
  have hdl : d < 18446744073709551616 := h2.low d (by simp)
  have ht1 := trim_len ls
  have hl1 := h1.len
  have hv1 : val (2 ^ 64) (trimL ls) = val (2 ^ 64) ls := val_trim ls
  have htd : trimL [d] = [d] := by have := trimL_snoc [] (x := d) (by omega); simpa using this
  have hc1 := fun W (hb : Below w.heap.size w W) => cut_any a n c ls W (h1.step hb)
  have hc2 := fun W (hb : Below w.heap.size w W) => cut_any b 1 cb [d] W (h2.step hb)
  rw [htd] at hc2
  have hw1 := fun W (hb : Below w.heap.size w W) => (h1.step hb).trim
  have hw2 := fun W (hb : Below w.heap.size w W) => h2.step hb
  rw [← hv1] at hv0 ⊢
  obtain ⟨A, hA⟩ : ∃ A, trimL ls = A := ⟨_, rfl⟩
  rw [hA] at ht1 hc1 hw1 hv0 ⊢
  have HC := Lib.hid (And.intro hc1 hc2)
  have HW := Lib.hid (And.intro hw1 (And.intro hw2 hv0))
  clear hA hv1 hc1 hc2 hw1 hw2 h1 h2 htd hv0
  have hlen1 : ([d] : List Nat).length = 1 := rfl
  rw [hlen1] at HC
  by_cases hlt : val (2 ^ 64) A < d
  · have HQ := Lib.hid (And.intro (Nat.div_eq_of_lt hlt) (And.intro (Nat.mod_eq_of_lt hlt) hlt))
    clear hlt
    go_enter Tryd.func40, Tryd.ntmps40
    go_wp2_with (first
      | (go_at_call_of 36 a; refine (HC.out.1 _ (Below.refl _ _)).mono ?_; rintro e w1 ⟨rfl, hb1⟩; have HB1 := Lib.hid hb1; clear hb1)
      | (go_at_call_of 36 b; refine (HC.out.2 _ HB1.out).mono ?_; rintro e w2 ⟨rfl, hb2⟩; have HB2 := Lib.hid (Below.next0 HB1.out hb2); clear hb2)
      | (go_at_call_of 53 a; refine (natcmp_any a A.length c A b 1 cb [d] _ (HW.out.1 _ HB2.out) (HW.out.2.1 _ HB2.out) (by omega)).mono ?_; rintro e w3 ⟨⟨r, rfl, hr1, hr2⟩, hb3⟩; rw [val_1] at hr1; have hr0 : r < 0 := hr1.2 HQ.out.2.2; have HB3 := Lib.hid (Below.next0 HB2.out hb3); clear hb3 hr1 hr2)
      | (refine (nattrim_any a A.length c A _ (HW.out.1 _ HB3.out) (by omega) HW.out.2.2).mono ?_; rintro e w4 ⟨a4, n4, c4, rfl, hW4, hb4⟩; have HB4 := Lib.hid (And.intro hW4 (Below.next0 HB3.out hb4)); clear hW4 hb4))
    refine ⟨rfl, .tuple #[.slice none 0 0, .slice a4 n4 c4, .bool true], by simp [results, go_sem], none, 0, 0, a4, n4, c4, rfl, ?_, ?_, HB4.out.2, fun x e => by cases e⟩
    · rw [HQ.out.1]; exact ⟨rfl, Nat.le_refl _, by omega, fun x hx => by simp [dig_zero] at hx, .inl rfl⟩
    · rw [HQ.out.2.1]; exact HB4.out.1
  · have hle : d ≤ val (2 ^ 64) A := by omega
    have HQ := Lib.hid hle
    have HV := Lib.hid hlt
    clear hlt hle
    obtain ⟨rm, hrm⟩ : ∃ rm, val (2 ^ 64) A % d = rm := ⟨_, rfl⟩
    have hml : rm < 18446744073709551616 := by rw [← hrm]; exact Nat.lt_trans (Nat.mod_lt _ (by omega)) hdl
    have HRM := Lib.hid hrm
    clear hrm
    go_enter Tryd.func40, Tryd.ntmps40
    go_wp2_with (first
      | (go_at_call_of 36 a; refine (HC.out.1 _ (Below.refl _ _)).mono ?_; rintro e w1 ⟨rfl, hb1⟩; have HB1 := Lib.hid hb1; clear hb1)
      | (go_at_call_of 36 b; refine (HC.out.2 _ HB1.out).mono ?_; rintro e w2 ⟨rfl, hb2⟩; have HB2 := Lib.hid (Below.next0 HB1.out hb2); clear hb2)
      | (go_at_call_of 53 a; refine (natcmp_any a A.length c A b 1 cb [d] _ (HW.out.1 _ HB2.out) (HW.out.2.1 _ HB2.out) (by omega)).mono ?_; rintro e w3 ⟨⟨r, rfl, hr1, hr2⟩, hb3⟩; rw [val_1] at hr1; have hr0 : ¬ r < 0 := fun h => HV.out (hr1.1 h); have HB3 := Lib.hid (Below.next0 HB2.out hb3);
         obtain ⟨gb, ob, hbe, hgb, hcb⟩ := (HW.out.2.1 _ HB3.out).rd.at_ (k := 0) (x := d) rfl; rw [Nat.add_zero] at hcb; subst hbe; clear hb3 hr1 hr2)
      | (go_at_call_of 55 a; have hbw := byword_any a A.length c A d w3 (HW.out.1 _ HB3.out) (by omega) hd hdl; rw [HRM.out] at hbw; refine hbw.mono ?_; rintro e w4 ⟨a4, n4, c4, rfl, hW4, hb4, hfr⟩; have HB4 := Lib.hid (And.intro hW4 (And.intro (Below.next0 HB3.out hb4) (fun x (e : a4 = some x) => Nat.le_trans HB3.out.size (hfr x e)))); clear hW4 hb4 hbw hfr)
      | (refine (cut_any _ 1 1 [rm] _ (words_1 w4 rm hml 41)).mono ?_; rintro e w5 ⟨rfl, hb5⟩; have HB5 := Lib.hid hb5; clear hb5))
    have hb6 := Below.next0 ((Below.refl _ _).alloc (Nat.le_refl _) (.cells #[.int .u64 (rm : Int)] 41)) HB5.out
    have htr := ((words_1 w4 rm hml 41).step HB5.out).trim
    have hdg := trim_dig (B := 2 ^ 64) (by decide) (words_1 w4 rm hml 41).low
    rw [val_1] at hdg
    rw [hdg] at htr
    refine ⟨rfl, .tuple #[.slice a4 n4 c4, .slice (some ⟨w4.heap.size, 0, none⟩) (trimL [rm]).length 1, .bool true], by simp [results, go_sem], a4, n4, c4, _, _, _, rfl, HB4.out.1.step hb6, ?_, Below.next0 HB4.out.2.1 hb6, HB4.out.2.2⟩
    rw [HRM.out, hdg]
    exact htr
end Go.Proofs.YtmocmkfpblakbaaDoor
