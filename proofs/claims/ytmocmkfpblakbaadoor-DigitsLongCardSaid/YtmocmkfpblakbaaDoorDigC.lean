/- The walk of the digits' decimal. Condition: the argument lies as right words, at most 64; the library's table lies. -/
/- The walk of the digits' Text. Condition: the words lie as a slice of words; the library's table lies. -/
import Derived.Test.YtmocmkfpblakbaaDoorNatI
import Derived.Test.YtmocmkfpblakbaaDoorFmtU
import Derived.Test.YtmocmkfpblakbaaDoorBuilder
import Derived.Deep.LoopGhost
import Derived.Test.YtmocmkfpblakbaaDoorRefK
namespace Go.Proofs.YtmocmkfpblakbaaDoor
open Go.RowKit WordsM DecM

theorem info_str : (Tryd.prog.info? 9).map (fun i => (i.zero, i.size, i.bytes)) = some (some (.string ⟨#[]⟩), 1, 16) := by kernel_rfl
theorem one_str (t : List UInt8) : ∀ u ∈ [sv t], u.oneCell' = true := by
  intro u hu; rw [List.mem_singleton] at hu; subst hu; rfl
theorem one_strv (t : ByteArray) : ∀ u ∈ [Value.string t], u.oneCell' = true := by
  intro u hu; rw [List.mem_singleton] at hu; subst hu; rfl
theorem repeat_zero (m : Nat) : Lib.repeatL [48] m = List.replicate m (48 : UInt8) := by
  induction m with
  | zero => rfl
  | succ m ih => rw [List.replicate_succ, ← ih]; rfl
/-- the texts, the last one first -/
def rev (xs : List (List UInt8)) : List UInt8 := xs.reverse.flatten
theorem rev_snoc (xs : List (List UInt8)) (t : List UInt8) : rev (xs ++ [t]) = t ++ rev xs := by simp [rev]
theorem rev_len (xs : List (List UInt8)) (h : ∀ x ∈ xs, 1 ≤ x.length) : xs.length ≤ (rev xs).length := by
  induction xs with
  | nil => simp [rev]
  | cons x r ih =>
    have h1 := ih fun y hy => h y (by simp [hy])
    have h2 := h x (by simp)
    simp only [rev, List.reverse_cons, List.flatten_append, List.length_append, List.length_cons] at h1 ⊢
    simp only [List.flatten_cons, List.flatten_nil, List.append_nil]
    omega
/-- the digits so far -/
def DecRel (v u : Nat) (xs : List (List UInt8)) : Prop := (u = 0 → rev xs = dec v) ∧ (u ≠ 0 → dec v = dec u ++ rev xs) ∧ ∀ x ∈ xs, 1 ≤ x.length
theorem DecRel.len {v u : Nat} {xs : List (List UInt8)} (h : DecRel v u xs) : xs.length ≤ (dec v).length ∧ (rev xs).length ≤ (dec v).length := by
  have h1 := rev_len xs h.2.2
  by_cases h0 : u = 0
  · rw [← h.1 h0]; exact ⟨h1, Nat.le_refl _⟩
  · have h2 := congrArg List.length (h.2.1 h0)
    rw [List.length_append] at h2
    omega
/-- one part more -/
theorem DecRel.next {v u q r : Nat} {xs : List (List UInt8)} (h : DecRel v u xs) (hu : u ≠ 0) (hq : u = q * 10 ^ 19 + r) (hr : r < 10 ^ 19) : DecRel v q (xs ++ [if q = 0 then dec r else List.replicate (19 - (dec r).length) 48 ++ dec r]) := by
  have h1 := dec_len_pos r
  refine ⟨fun h0 => ?_, fun h0 => ?_, fun x hx => ?_⟩
  · rw [if_pos h0, rev_snoc, h.2.1 hu, hq, h0]; simp
  · rw [if_neg h0, rev_snoc, h.2.1 hu, hq, dec_pd q (by omega) 19 r hr, pd_dec 19 r (by decide) hr]; simp
  · rcases List.mem_append.1 hx with hx | hx
    · exact h.2.2 x hx
    · rw [List.mem_singleton] at hx
      subst hx
      split
      · exact h1
      · rw [List.length_append]; omega
theorem words_grown {w w' : World} {a : Option Addr} {n c : Nat} {ls : List Nat} {row : Option Nat} (h : WordsIn w a n c ls) (hg : w.grownBy w' row) (hne : ∀ x, a = some x → some x.block ≠ row) : WordsIn w' a n c ls := by
  refine ⟨h.len, h.cap, h.most, h.low, ?_⟩
  rcases h.rd with h0 | ⟨b, o, rfl, hb, hc⟩
  · exact .inl h0
  · have hbk := hg.block b hb (hne _ rfl)
    have hb' : b < w'.heap.size := by
      have h1 : w.heap[b]? = some w.heap[b] := Array.getElem?_eq_getElem hb
      rw [← hbk] at h1
      exact (Array.getElem?_eq_some_iff.1 h1).1
    exact .inr ⟨b, o, rfl, hb', fun j x hx => (World.cell?_of_block (a := ⟨b, o + j, none⟩) hbk).trans (hc j x hx)⟩
theorem dec_round {wr w2 w5 : World} {O : Obj} {aq al a3 : Option Addr} {nq cq q : Nat} (hW : WordsIn w2 aq nq cq (dig (2 ^ 64) q)) (hq0 : q ≠ 0) (hfr : ∀ x, aq = some x → wr.heap.size ≤ x.block) (hal : ∀ y, al = some y → y.block < wr.heap.size)
    (hg : (w2.alloc O).grownBy w5 (al.map (·.block))) (hat : a3.map (·.block) = al.map (·.block) ∨ a3.map (·.block) = some (w2.alloc O).heap.size) : WordsIn w5 aq nq cq (dig (2 ^ 64) q) ∧ ∀ x y, aq = some x → a3 = some y → x.block ≠ y.block := by
  have hlt : ∀ x, aq = some x → x.block < w2.heap.size := fun x e => by
    rcases hW.rd with h0 | ⟨b, o, rfl, hb, _⟩
    · exact absurd ((dig_nil (by decide)).1 h0) hq0
    · injection e with e; subst e; exact hb
  refine ⟨words_grown (hW.step ((Below.refl _ _).alloc (Nat.le_refl _) O)) hg fun x e e2 => ?_, fun x y ex ey e => ?_⟩
  · cases hal2 : al with
    | none => rw [hal2] at e2; cases e2
    | some z =>
      rw [hal2] at e2
      simp only [Option.map_some, Option.some.injEq] at e2
      have := hfr x e; have := hal z hal2; omega
  · have h1 := hlt x ex
    have h2 := hfr x ex
    rw [ey, Option.map_some] at hat
    rcases hat with h3 | h3
    · cases hal2 : al with
      | none => rw [hal2] at h3; cases h3
      | some z =>
        rw [hal2] at h3
        simp only [Option.map_some, Option.some.injEq] at h3
        have := hal z hal2; omega
    · simp only [Option.some.injEq] at h3
      rw [World.size_alloc] at h3
      omega
set_option maxRecDepth 100000 in
set_option maxHeartbeats 8000000 in
theorem decimal_any (a : Option Addr) (n c : Nat) (v : Nat) (w : World) (h : WordsIn w a n c (dig (2 ^ 64) v)) (hn : n ≤ 64) (hdv : (dec v).length ≤ 1281) (htab : ∀ W, Below w.heap.size w W → Lib.TabIs Tryd.prog W "internal/strconv.uint64pow10" .u64 Lib.pow10Tab) :
    Calls Tryd.prog 27 #[.slice a n c] w fun e w' => e = .returned (sv (dec v)) ∧ Below w.heap.size w w' := by
  by_cases hv0 : v = 0
  · have hn0 : n = 0 := by have := h.len; rw [hv0, dig_zero] at this; exact this.symm
    subst hn0 hv0
    have hd0 : dec 0 = [48] := dec_low (by decide)
    have HD := Lib.hid hd0
    clear h hd0 htab hdv
    go_enter Tryd.func27, Tryd.ntmps27
    go_wp2_with fail
    go_ret
    rw [HD.out]
    exact ⟨rfl, Below.refl _ _⟩
  · have hn0 : n ≠ 0 := fun e => hv0 ((dig_nil (B := 2 ^ 64) (by decide)).1 (List.length_eq_zero_iff.1 (by rw [h.len, e])))
    have hn0I : ((n : Int) == 0) = false := by rw [beq_eq_false_iff_ne]; omega
    obtain ⟨i0, hi0, hz0, hz1, hz2⟩ := info_parts info_str
    have HI := Lib.hid (And.intro hi0 (And.intro hz0 (And.intro hz1 hz2)))
    have H := Lib.hid (And.intro h (And.intro htab hv0))
    clear h htab hv0 hi0 hz0 hz1 hz2
    go_enter Tryd.func27, Tryd.ntmps27
    go_wp2_with fail
    go_loopg [0, 3] v (fun g wv lv wr => ∃ (u : Nat) (ao : Option Addr) (no co : Nat) (al : Option Addr) (k cl : Nat) (xs : List (List UInt8)), wv = .slice ao no co ∧ lv = .slice al k cl ∧ no ≤ 64 ∧ WordsIn wr ao no co (dig (2 ^ 64) u) ∧ Row wr w.heap.size 9 1 al k cl (xs.map sv) ∧ xs.length = k ∧ DecRel v u xs ∧ g = u ∧ Below w.heap.size w wr ∧ (u ≠ 0 → ∀ x y, ao = some x → al = some y → x.block ≠ y.block))
    case atStart => exact ⟨v, a, n, c, none, 0, 0, [], rfl, rfl, hn, H.out.1, Row.nil_ _ _ _ _, rfl, ⟨fun e => absurd e H.out.2.2, fun _ => by simp [rev], fun x hx => by simp at hx⟩, rfl, Below.refl _ _, fun _ x y _ e => by cases e⟩
    case round =>
      obtain ⟨u, ao, no, co, al, k, cl, xs, rfl, rfl, hno, hW, hrow, hxl, hrel2, hg, hb, hdis⟩ := hrel
      by_cases hu : u = 0
      · subst hu
        have hno0 : no = 0 := by have := hW.len; rw [dig_zero] at this; exact this.symm
        subst hno0
        have hrv := hrel2.1 rfl
        have hk := hrel2.len
        have hk2 : k ≤ 1281 := by omega
        have hkI : ∀ W, Below wr.heap.size wr W → ∀ i t, xs[i]? = some t → ∃ g, al = some ⟨g, 0, none⟩ ∧ W.cell? ⟨g, i, none⟩ = some (sv t) := fun W hbW i t ht => by
          obtain ⟨g, hg1, _, hg2, hc⟩ := hrow.at_ (j := i) (x := sv t) (by rw [List.getElem?_map, ht]; rfl)
          exact ⟨g, hg1, (hbW.cell (p := ⟨g, i, none⟩) hg2).trans hc⟩
        have hlen : (rev xs).length ≤ 1281 := by omega
        have hba : Below wr.heap.size wr (wr.alloc (.cells #[.pointer none, .slice none 0 0] 82)) := (Below.refl _ _).alloc (Nat.le_refl _) _
        have hbn := Build.new wr.heap.size wr (Nat.le_refl _)
        have HX := Lib.hid (And.intro hrv (And.intro hkI (And.intro hlen (And.intro hb (And.intro hba hbn)))))
        clear hrv hk hkI hlen hb hba hbn hrow hrel2 hdis hW hg
        generalize wr = W1 at *
        go_wp2_with fail
        go_loopw [10] (fun iv wz => ∃ j : Nat, iv = .int .i64 ((j : Int) - 1) ∧ j ≤ k ∧ Build W1.heap.size W1.heap.size (rev (xs.drop j)) wz ∧ Below W1.heap.size W1 wz) (fun iv _ => (intOf iv + 1).toNat)
        case atStart => exact ⟨k, rfl, Nat.le_refl _, by rw [List.drop_eq_nil_of_le (by omega)]; exact HX.out.2.2.2.2.2, HX.out.2.2.2.2.1⟩
        case round =>
          obtain ⟨j, rfl, hj, hbu, hbz⟩ := hrel
          cases j with
          | zero =>
            rw [List.drop_zero, HX.out.1] at hbu
            have HB := Lib.hid (And.intro hbu hbz)
            clear hbu hbz
            go_wp2_with (refine (Tryd.Builder_String_any W1.heap.size W1.heap.size _ _ HB.out.1 HB.out.2.size).mono ?_; rintro e w3 ⟨rfl, hb5⟩; have HB5 := Lib.hid hb5; clear hb5)
            go_ret
            exact ⟨rfl, Below.next0 HX.out.2.2.2.1 (HB.out.2.trans HB5.out)⟩
          | succ j =>
            obtain ⟨t, ht⟩ : ∃ t, xs[j]? = some t := ⟨_, List.getElem?_eq_getElem (by omega)⟩
            obtain ⟨g, rfl, hct⟩ := HX.out.2.1 _ hbz j t ht
            have hdrop : rev (xs.drop j) = rev (xs.drop (j + 1)) ++ t := by
              have e1 := List.getElem?_eq_some_iff.1 ht
              rw [List.drop_eq_getElem_cons e1.1, e1.2]
              simp [rev]
            have hl : (rev (xs.drop (j + 1))).length + t.length ≤ 1281 := by
              have h1 : xs = xs.take j ++ xs.drop j := (List.take_append_drop j xs).symm
              have h2 : (rev (xs.drop j)).length ≤ (rev xs).length := by
                have h3 : rev xs = rev (xs.drop j) ++ rev (xs.take j) := by
                  have h4 := congrArg rev h1
                  rw [h4]
                  unfold rev
                  rw [List.reverse_append, List.flatten_append]
                rw [h3, List.length_append]; omega
              rw [hdrop, List.length_append] at h2
              have := HX.out.2.2.1
              omega
            have hjI : ((j + 1 : Nat) : Int) - 1 = (j : Int) := by omega
            have hjk : (j : Int) < (k : Int) := by omega
            have HD := Lib.hid (And.intro hdrop (And.intro hbu (And.intro hbz hl)))
            clear hdrop hbu hbz hl ht
            rw [hjI]
            go_wp2_with (refine (write_any W1.heap.size W1.heap.size _ t _ HD.out.2.1 (by have := HD.out.2.2.2; omega) HD.out.2.2.1.size).mono ?_; rintro e w3 ⟨rfl, hb3, hb4⟩; have HB4 := Lib.hid (And.intro hb3 hb4); clear hb3 hb4)
            exact ⟨⟨j, rfl, by omega, by rw [HD.out.1]; exact .inr HB4.out.1, HD.out.2.2.1.trans HB4.out.2⟩, by simp only [intOf]; omega⟩
      · have hno0 : no ≠ 0 := fun e => hu ((dig_nil (B := 2 ^ 64) (by decide)).1 (List.length_eq_zero_iff.1 (by rw [hW.len, e])))
        have hnoI : (0 : Int) < (no : Int) := by omega
        have hba : Below wr.heap.size wr (wr.alloc (.cells #[.int .u64 10000000000000000000] 41)) := (Below.refl _ _).alloc (Nat.le_refl _) _
        have hdv1 := natdiv1_any ao no co (dig (2 ^ 64) u) (some ⟨wr.heap.size, 0, none⟩) 1 10000000000000000000 (wr.alloc (.cells #[.int .u64 10000000000000000000] 41)) (hW.step hba) (words_1 wr 10000000000000000000 (by decide) 41) (by omega) (by decide) (by rw [val_dig (by decide)]; exact hu)
        rw [val_dig (by decide)] at hdv1
        obtain ⟨q, hq⟩ : ∃ q, u / 10000000000000000000 = q := ⟨_, rfl⟩
        obtain ⟨r, hr⟩ : ∃ r, u % 10000000000000000000 = r := ⟨_, rfl⟩
        rw [hq, hr] at hdv1
        have hr19 : r < 10000000000000000000 := by rw [← hr]; exact Nat.mod_lt _ (by decide)
        have hrl : r < 2 ^ 64 := Nat.lt_trans hr19 (by decide)
        have huq : u = q * 10 ^ 19 + r := by rw [← hq, ← hr, Nat.mul_comm]; exact (Nat.div_add_mod u (10 ^ 19)).symm
        have hnx := hrel2.next hu huq hr19
        have hqu : q < u := by rw [← hq]; exact Nat.div_lt_self (by omega) (by decide)
        have hnq64 : (dig (2 ^ 64) q).length ≤ 64 := Nat.le_trans (dig_len_mono64 (by decide) (Nat.le_of_lt hqu)) (by rw [hW.len]; exact hno)
        have hdl19 : (dec r).length ≤ 19 := dec_len 19 r hr19 (by decide)
        have hk := hrel2.len
        have hk2 : k ≤ 1281 := by omega
        have HDV := Lib.hid hdv1
        have HBA := Lib.hid hba
        have HBW := Lib.hid hb
        have HTB := Lib.hid H.out.2.1
        have hal : ∀ y, al = some y → y.block < wr.heap.size := fun y e => by
          rcases hrow.form with ⟨h0, _⟩ | ⟨g, cur, h0, _, hg, _⟩
          · rw [h0] at e; cases e
          · rw [h0] at e; injection e with e; subst e; exact hg
        have HAL := Lib.hid (And.intro hal hdis)
        clear hal hdis
        have HRW := Lib.hid (fun W (hbW : Below wr.heap.size wr W) => hrow.call hbW)
        have HNX := Lib.hid (And.intro hnx (And.intro hqu (And.intro hnq64 (And.intro hg hb))))
        clear hdv1 hq hr huq hnx hqu hnq64 hrow hb hW hg hba hk hrel2
        by_cases hq0 : q = 0
        · by_cases hr0 : r = 0
          · skip
            have HQ0 := Lib.hid hq0
            have HR0 := Lib.hid (show (0 : Nat) = 0 from rfl)
            clear hq0
            subst hr0
            have hS : (dec 0).length ≤ 19 := hdl19
            obtain ⟨t, ht⟩ : ∃ t : List UInt8, t = dec 0 := ⟨_, rfl⟩
            have htl : t.length ≤ 40 := by rw [ht]; omega
            have HT := Lib.hid ht
            go_wp2_with (first
              | (go_at_call_of 40 ao; refine HDV.out.mono ?_; rintro e w1 ⟨aq, nq, cq, ar, nr, cr, rfl, hWq, hWr, hb1, hfr⟩; have HFR := Lib.hid (fun x (e : aq = some x) => Nat.le_trans HBA.out.size (hfr x e)); clear hfr; obtain rfl : nq = 0 := by { have := hWq.len; rw [HQ0.out, dig_zero] at this; exact this.symm }; obtain rfl : nr = 0 := by { have := hWr.len; rw [HR0.out, dig_zero] at this; exact this.symm }; have HB1 := Lib.hid (And.intro hWq (Below.next0 HBA.out hb1)); clear hWq hWr hb1)
              | (refine (fmtu_any 0 (by omega) _ (HTB.out _ (Below.next0 HBW.out HB1.out.2))).mono ?_; rintro e w2 ⟨rfl, hb2⟩; have HB2 := Lib.hid (And.intro (HB1.out.1.step hb2) (Below.next0 HB1.out.2 hb2)); clear hb2)
              | (at_builtin; refine wpList_append_row rfl (.tmp 41) (.tmp 43) 75 rfl w _ 9 i0 _ 1 16 Tryd.underlying75 HI.out.1 HI.out.2.1 HI.out.2.2.1 HI.out.2.2.2 rfl (by decide) w.heap.size ((Below.next0 HBW.out HB2.out.2).alloc (Below.next0 HBW.out HB2.out.2).size _) ((Below.next0 HBW.out HB2.out.2).alloc (Below.next0 HBW.out HB2.out.2).size _).size al k cl _ rfl ((HRW.out _ HB2.out.2).alloc _) ⟨w2.heap.size, 0, none⟩ 1 1 [sv (dec 0)] rfl rfl (cells_new w2 #[sv (dec 0)] _ _) (one_strv _) (k + 1) rfl (by omega) (by omega) ?_; intro a3 c3 w5 ho3 hg3 hb5 hat3; have HO := Lib.hid (And.intro ho3 (And.intro hb5 (And.intro hg3 hat3))); clear ho3 hg3 hb5 hat3))
            go_roundg q
            case measure => have h1 := HNX.out.2.1; have h2 := HNX.out.2.2.2.1; omega
            case rel =>
              have h1 := HNX.out.1
              rw [if_pos HQ0.out] at h1
              have hw0 : 0 ≤ 64 := by have h3 := HB2.out.1.len; have h4 := HNX.out.2.2.1; omega
              have hrw : Row w5 w.heap.size 9 1 a3 (k + 1) c3 ((xs ++ [t]).map sv) := by
                have h5 := HO.out.1
                rw [List.map_append, HT.out]
                exact h5
              exact ⟨q, aq, 0, cq, a3, k + 1, c3, xs ++ [t], rfl, rfl, hw0, ⟨HB2.out.1.len, HB2.out.1.cap, HB2.out.1.most, HB2.out.1.low, .inl (by rw [HQ0.out]; rfl)⟩, hrw, by rw [List.length_append, hxl]; rfl, by rw [HT.out]; exact h1, rfl, HO.out.2.1, fun h => absurd HQ0.out h⟩
          · skip
            have HQ0 := Lib.hid hq0
            have HR0 := Lib.hid hr0
            clear hq0 hr0
            have hS : (dec r).length ≤ 19 := hdl19
            obtain ⟨t, ht⟩ : ∃ t : List UInt8, t = dec r := ⟨_, rfl⟩
            have htl : t.length ≤ 40 := by rw [ht]; omega
            have HT := Lib.hid ht
            go_wp2_with (first
              | (go_at_call_of 40 ao; refine HDV.out.mono ?_; rintro e w1 ⟨aq, nq, cq, ar, nr, cr, rfl, hWq, hWr, hb1, hfr⟩; have HFR := Lib.hid (fun x (e : aq = some x) => Nat.le_trans HBA.out.size (hfr x e)); clear hfr; obtain rfl : nq = 0 := by { have := hWq.len; rw [HQ0.out, dig_zero] at this; exact this.symm }; have hd1 := dig_one (d := r) hrl HR0.out; rw [hd1] at hWr; obtain rfl : nr = 1 := hWr.len.symm; obtain ⟨gr, og, hre, hgr, hcr⟩ := hWr.rd.at_ (k := 0) (x := r) rfl; rw [Nat.add_zero] at hcr; subst hre; have HB1 := Lib.hid (And.intro hWq (Below.next0 HBA.out hb1)); clear hWq hWr hb1)
              | (refine (fmtu_any r (by omega) _ (HTB.out _ (Below.next0 HBW.out HB1.out.2))).mono ?_; rintro e w2 ⟨rfl, hb2⟩; have HB2 := Lib.hid (And.intro (HB1.out.1.step hb2) (Below.next0 HB1.out.2 hb2)); clear hb2)
              | (at_builtin; refine wpList_append_row rfl (.tmp 41) (.tmp 43) 75 rfl w _ 9 i0 _ 1 16 Tryd.underlying75 HI.out.1 HI.out.2.1 HI.out.2.2.1 HI.out.2.2.2 rfl (by decide) w.heap.size ((Below.next0 HBW.out HB2.out.2).alloc (Below.next0 HBW.out HB2.out.2).size _) ((Below.next0 HBW.out HB2.out.2).alloc (Below.next0 HBW.out HB2.out.2).size _).size al k cl _ rfl ((HRW.out _ HB2.out.2).alloc _) ⟨w2.heap.size, 0, none⟩ 1 1 [sv (dec r)] rfl rfl (cells_new w2 #[sv (dec r)] _ _) (one_strv _) (k + 1) rfl (by omega) (by omega) ?_; intro a3 c3 w5 ho3 hg3 hb5 hat3; have HO := Lib.hid (And.intro ho3 (And.intro hb5 (And.intro hg3 hat3))); clear ho3 hg3 hb5 hat3))
            go_roundg q
            case measure => have h1 := HNX.out.2.1; have h2 := HNX.out.2.2.2.1; omega
            case rel =>
              have h1 := HNX.out.1
              rw [if_pos HQ0.out] at h1
              have hw0 : 0 ≤ 64 := by have h3 := HB2.out.1.len; have h4 := HNX.out.2.2.1; omega
              have hrw : Row w5 w.heap.size 9 1 a3 (k + 1) c3 ((xs ++ [t]).map sv) := by
                have h5 := HO.out.1
                rw [List.map_append, HT.out]
                exact h5
              exact ⟨q, aq, 0, cq, a3, k + 1, c3, xs ++ [t], rfl, rfl, hw0, ⟨HB2.out.1.len, HB2.out.1.cap, HB2.out.1.most, HB2.out.1.low, .inl (by rw [HQ0.out]; rfl)⟩, hrw, by rw [List.length_append, hxl]; rfl, by rw [HT.out]; exact h1, rfl, HO.out.2.1, fun h => absurd HQ0.out h⟩
        · by_cases hr0 : r = 0
          · skip
            have HQ0 := Lib.hid hq0
            have HR0 := Lib.hid (show (0 : Nat) = 0 from rfl)
            clear hq0
            subst hr0
            obtain ⟨m, hm⟩ : ∃ m, 19 - (dec 0).length = m := ⟨_, rfl⟩
            have hmI : (19 : Int) - ((dec 0).length : Int) = (m : Int) := by omega
            have hm19 : m ≤ 19 := by omega
            have hrpl : (Lib.repeatL [48] m).length = m := by rw [repeat_zero, List.length_replicate]
            have hdl19' : (Lib.decDigits _).length ≤ 19 := hdl19
            have hrp := fun W => Tryd.strings_Repeat ⟨#[48]⟩ m W (by omega) (by show 1 * m ≤ _; omega)
            obtain ⟨t, ht⟩ : ∃ t : List UInt8, t = List.replicate m 48 ++ dec 0 := ⟨_, rfl⟩
            have htl : t.length ≤ 40 := by rw [ht]; simp; omega
            have HT := Lib.hid ht
            go_wp2_with (first
              | (go_at_call_of 40 ao; refine HDV.out.mono ?_; rintro e w1 ⟨aq, nq, cq, ar, nr, cr, rfl, hWq, hWr, hb1, hfr⟩; have HFR := Lib.hid (fun x (e : aq = some x) => Nat.le_trans HBA.out.size (hfr x e)); clear hfr; have hnqI : (0 : Int) < (nq : Int) := by { have h9 := hWq.len; have h8 : nq ≠ 0 := fun e => HQ0.out ((dig_nil (B := 2 ^ 64) (by decide)).1 (List.length_eq_zero_iff.1 (by rw [h9, e]))); omega }; obtain rfl : nr = 0 := by { have := hWr.len; rw [HR0.out, dig_zero] at this; exact this.symm }; have HB1 := Lib.hid (And.intro hWq (Below.next0 HBA.out hb1)); clear hWq hWr hb1)
              | (refine (fmtu_any 0 (by omega) _ (HTB.out _ (Below.next0 HBW.out HB1.out.2))).mono ?_; rintro e w2 ⟨rfl, hb2⟩; have HB2 := Lib.hid (And.intro (HB1.out.1.step hb2) (Below.next0 HB1.out.2 hb2)); clear hb2)
              | (go_at_call_of 42 (Value.string ⟨#[48]⟩); refine (hrp _).mono ?_; rintro e w3 ⟨rfl, hb3⟩; have HB3 := Lib.hid (And.intro (HB2.out.1.step hb3) (Below.next0 HB2.out.2 hb3)); clear hb3)
              | (at_builtin; refine wpList_append_row rfl (.tmp 41) (.tmp 43) 75 rfl w _ 9 i0 _ 1 16 Tryd.underlying75 HI.out.1 HI.out.2.1 HI.out.2.2.1 HI.out.2.2.2 rfl (by decide) w.heap.size ((Below.next0 HBW.out HB3.out.2).alloc (Below.next0 HBW.out HB3.out.2).size _) ((Below.next0 HBW.out HB3.out.2).alloc (Below.next0 HBW.out HB3.out.2).size _).size al k cl _ rfl ((HRW.out _ HB3.out.2).alloc _) ⟨w3.heap.size, 0, none⟩ 1 1 [Value.string (⟨(Lib.repeatL [48] m).toArray⟩ ++ ⟨(dec 0).toArray⟩)] rfl rfl (cells_new w3 #[Value.string (⟨(Lib.repeatL [48] m).toArray⟩ ++ ⟨(dec 0).toArray⟩)] _ _) (one_strv _) (k + 1) rfl (by omega) (by omega) ?_; intro a3 c3 w5 ho3 hg3 hb5 hat3; have HO := Lib.hid (And.intro ho3 (And.intro hb5 (And.intro hg3 hat3))); clear ho3 hg3 hb5 hat3))
            go_roundg q
            case measure => have h1 := HNX.out.2.1; have h2 := HNX.out.2.2.2.1; omega
            case rel =>
              have h1 := HNX.out.1
              rw [if_neg HQ0.out, hm] at h1
              have hw0 : nq ≤ 64 := by have h3 := HB3.out.1.len; have h4 := HNX.out.2.2.1; omega
              have hrw : Row w5 w.heap.size 9 1 a3 (k + 1) c3 ((xs ++ [t]).map sv) := by
                have h5 := HO.out.1
                rw [List.map_append, HT.out]
                rw [repeat_zero] at h5
                have h6 : ∀ (l r : List UInt8), Value.string ((⟨l.toArray⟩ : ByteArray) ++ ⟨r.toArray⟩) = sv (l ++ r) := fun l r => congrArg Value.string (ByteArray.ext (by simp [ByteArray.data_append]))
                rw [h6] at h5
                exact h5
              exact ⟨q, aq, nq, cq, a3, k + 1, c3, xs ++ [t], rfl, rfl, hw0, (dec_round HB3.out.1 HQ0.out HFR.out HAL.out.1 HO.out.2.2.1 HO.out.2.2.2).1, hrw, by rw [List.length_append, hxl]; rfl, by rw [HT.out]; exact h1, rfl, HO.out.2.1, fun _ => (dec_round HB3.out.1 HQ0.out HFR.out HAL.out.1 HO.out.2.2.1 HO.out.2.2.2).2⟩
          · skip
            have HQ0 := Lib.hid hq0
            have HR0 := Lib.hid hr0
            clear hq0 hr0
            obtain ⟨m, hm⟩ : ∃ m, 19 - (dec r).length = m := ⟨_, rfl⟩
            have hmI : (19 : Int) - ((dec r).length : Int) = (m : Int) := by omega
            have hm19 : m ≤ 19 := by omega
            have hrpl : (Lib.repeatL [48] m).length = m := by rw [repeat_zero, List.length_replicate]
            have hdl19' : (Lib.decDigits _).length ≤ 19 := hdl19
            have hrp := fun W => Tryd.strings_Repeat ⟨#[48]⟩ m W (by omega) (by show 1 * m ≤ _; omega)
            obtain ⟨t, ht⟩ : ∃ t : List UInt8, t = List.replicate m 48 ++ dec r := ⟨_, rfl⟩
            have htl : t.length ≤ 40 := by rw [ht]; simp; omega
            have HT := Lib.hid ht
            go_wp2_with (first
              | (go_at_call_of 40 ao; refine HDV.out.mono ?_; rintro e w1 ⟨aq, nq, cq, ar, nr, cr, rfl, hWq, hWr, hb1, hfr⟩; have HFR := Lib.hid (fun x (e : aq = some x) => Nat.le_trans HBA.out.size (hfr x e)); clear hfr; have hnqI : (0 : Int) < (nq : Int) := by { have h9 := hWq.len; have h8 : nq ≠ 0 := fun e => HQ0.out ((dig_nil (B := 2 ^ 64) (by decide)).1 (List.length_eq_zero_iff.1 (by rw [h9, e]))); omega }; have hd1 := dig_one (d := r) hrl HR0.out; rw [hd1] at hWr; obtain rfl : nr = 1 := hWr.len.symm; obtain ⟨gr, og, hre, hgr, hcr⟩ := hWr.rd.at_ (k := 0) (x := r) rfl; rw [Nat.add_zero] at hcr; subst hre; have HB1 := Lib.hid (And.intro hWq (Below.next0 HBA.out hb1)); clear hWq hWr hb1)
              | (refine (fmtu_any r (by omega) _ (HTB.out _ (Below.next0 HBW.out HB1.out.2))).mono ?_; rintro e w2 ⟨rfl, hb2⟩; have HB2 := Lib.hid (And.intro (HB1.out.1.step hb2) (Below.next0 HB1.out.2 hb2)); clear hb2)
              | (go_at_call_of 42 (Value.string ⟨#[48]⟩); refine (hrp _).mono ?_; rintro e w3 ⟨rfl, hb3⟩; have HB3 := Lib.hid (And.intro (HB2.out.1.step hb3) (Below.next0 HB2.out.2 hb3)); clear hb3)
              | (at_builtin; refine wpList_append_row rfl (.tmp 41) (.tmp 43) 75 rfl w _ 9 i0 _ 1 16 Tryd.underlying75 HI.out.1 HI.out.2.1 HI.out.2.2.1 HI.out.2.2.2 rfl (by decide) w.heap.size ((Below.next0 HBW.out HB3.out.2).alloc (Below.next0 HBW.out HB3.out.2).size _) ((Below.next0 HBW.out HB3.out.2).alloc (Below.next0 HBW.out HB3.out.2).size _).size al k cl _ rfl ((HRW.out _ HB3.out.2).alloc _) ⟨w3.heap.size, 0, none⟩ 1 1 [Value.string (⟨(Lib.repeatL [48] m).toArray⟩ ++ ⟨(dec r).toArray⟩)] rfl rfl (cells_new w3 #[Value.string (⟨(Lib.repeatL [48] m).toArray⟩ ++ ⟨(dec r).toArray⟩)] _ _) (one_strv _) (k + 1) rfl (by omega) (by omega) ?_; intro a3 c3 w5 ho3 hg3 hb5 hat3; have HO := Lib.hid (And.intro ho3 (And.intro hb5 (And.intro hg3 hat3))); clear ho3 hg3 hb5 hat3))
            go_roundg q
            case measure => have h1 := HNX.out.2.1; have h2 := HNX.out.2.2.2.1; omega
            case rel =>
              have h1 := HNX.out.1
              rw [if_neg HQ0.out, hm] at h1
              have hw0 : nq ≤ 64 := by have h3 := HB3.out.1.len; have h4 := HNX.out.2.2.1; omega
              have hrw : Row w5 w.heap.size 9 1 a3 (k + 1) c3 ((xs ++ [t]).map sv) := by
                have h5 := HO.out.1
                rw [List.map_append, HT.out]
                rw [repeat_zero] at h5
                have h6 : ∀ (l r : List UInt8), Value.string ((⟨l.toArray⟩ : ByteArray) ++ ⟨r.toArray⟩) = sv (l ++ r) := fun l r => congrArg Value.string (ByteArray.ext (by simp [ByteArray.data_append]))
                rw [h6] at h5
                exact h5
              exact ⟨q, aq, nq, cq, a3, k + 1, c3, xs ++ [t], rfl, rfl, hw0, (dec_round HB3.out.1 HQ0.out HFR.out HAL.out.1 HO.out.2.2.1 HO.out.2.2.2).1, hrw, by rw [List.length_append, hxl]; rfl, by rw [HT.out]; exact h1, rfl, HO.out.2.1, fun _ => (dec_round HB3.out.1 HQ0.out HFR.out HAL.out.1 HO.out.2.2.1 HO.out.2.2.2).2⟩
end Go.Proofs.YtmocmkfpblakbaaDoor
namespace Go.Proofs.YtmocmkfpblakbaaDoor
open Go.RowKit WordsM DecM

theorem isnum_dig {w : World} {a : Option Addr} {n c : Nat} {ls : List Nat} {neg : Bool} {exp : Int} (h : WordsIn w a n c ls) (hn : IsNum neg exp ls) : ls = dig (2 ^ 64) (val (2 ^ 64) ls) := by
  have h1 : trimL ls = ls := by
    by_cases h0 : ls = []
    · subst h0; rfl
    · unfold IsNum at hn
      rw [if_neg h0] at hn
      have h2 := trim_take ls
      rw [hn.1, List.take_length] at h2
      exact h2.symm
  have h3 := trim_dig (B := 2 ^ 64) (by decide) h.low
  rw [h1] at h3
  exact h3
set_option maxRecDepth 100000 in
set_option maxHeartbeats 4000000 in
theorem text_any (neg : Bool) (exp : Int) (a : Option Addr) (n c : Nat) (ls : List Nat) (w : World) (h : WordsIn w a n c ls) (he : -9223372036854775808 ≤ exp) (he2 : exp ≤ 9223372036854775807) (htab : ∀ W, Below w.heap.size w W → Lib.TabIs Tryd.prog W "internal/strconv.uint64pow10" .u64 Lib.pow10Tab) :
    Calls Tryd.prog 15 #[.agg #[.bool neg, .int .i64 exp, .slice a n c]] w fun e w' => e = .returned (sv (textOut neg exp ls)) ∧ Below w.heap.size w w' := by
  have hcm := Nat.le_trans h.cap h.most
  have hB0 : Below w.heap.size w (w.alloc (.cells #[.bool neg, .int .i64 exp, .slice a n c] 28)) := (Below.refl _ _).alloc (Nat.le_refl _) _
  have hN := NumBox.new w (.bool neg) (.int .i64 exp) (.slice a n c) 28
  have hl0 := box_lt w (.cells #[.bool neg, .int .i64 exp, .slice a n c] 28)
  have hr := numright_any neg exp a n c ls _ (h.step hB0) he he2 hcm
  by_cases hnum : IsNum neg exp ls
  · have htx : textOut neg exp ls = textN neg (val (2 ^ 64) ls) exp := if_pos hnum
    rw [htx]
    have hex := hnum.exp
    have hn64 : n ≤ 64 := by rw [← h.len]; exact hex.2.2
    rw [decide_eq_true hnum] at hr
    have hdl := dec_words h hn64
    have hdg := isnum_dig h hnum
    have hp := fun W (hb : Below w.heap.size w W) => decimal_any a n c (val (2 ^ 64) ls) W (by rw [← hdg]; exact h.step hb) hn64 hdl (fun V hV => htab V (Below.next0 hb hV))
    generalize val (2 ^ 64) ls = v at *
    have HR := Lib.hid (And.intro hr (And.intro hp (And.intro hN (And.intro hB0 htab))))
    clear hr hp htx hnum h hN hB0 hdg htab
    by_cases h0 : exp = 0
    · subst h0
      cases neg
      all_goals
        go_enter Tryd.func15, Tryd.ntmps15
        go_wp2_with (first
          | (go_at_call_of 27 a; refine (HR.out.2.1 _ HB1.out).mono ?_; rintro e w3 ⟨rfl, hb3⟩; have hbx := Below.next0 HR0.out hb3; have hQ := HR.out.2.2.1.step hbx hl0; have hg0 := hQ.c0; have hg1 := hQ.c1; have HB3 := Lib.hid hbx; clear hb3 hbx hQ)
          | (refine HR.out.1.mono ?_; rintro e w1 ⟨rfl, hb1⟩; have hQ := HR.out.2.2.1.step hb1 hl0; have hg2 := hQ.c2; have HB1 := Lib.hid (Below.next0 HR.out.2.2.2.1 hb1); have HR0 := Lib.hid hb1; clear hb1 hQ))
        go_ret
        refine ⟨?_, Below.next0 HR.out.2.2.2.1 HB3.out⟩
        refine congrArg Ending.returned (congrArg Value.string (ByteArray.ext ?_))
        simp [textN, expT]
    · obtain ⟨m, hm⟩ : ∃ m : Nat, exp.natAbs = m := ⟨_, rfl⟩
      have hm0 : 0 < m := by omega
      have hm1 : m ≤ 65536 := by omega
      have hml := dec_len 5 m (by omega) (by decide)
      have hml' : (Lib.decDigits m).length ≤ 5 := hml
      have h0I : ((exp != 0) : Bool) = true := by rw [bne_iff_ne]; exact h0
      by_cases hneg : exp < 0
      · skip
        have hit : Lib.itoa exp = 45 :: dec m := by { rw [show exp = -(m : Int) by omega]; exact Lib.itoa_neg m hm0 }
        have hitl : (Lib.itoa exp).length ≤ 6 := by { rw [hit]; simp; omega }
        have HIT := Lib.hid (And.intro hit hm)
        clear hit hm hex
        cases neg
        all_goals
          go_enter Tryd.func15, Tryd.ntmps15
          go_wp2_with (first
            | (go_at_call_of 27 a; refine (HR.out.2.1 _ HB1.out).mono ?_; rintro e w3 ⟨rfl, hb3⟩; have hbx := Below.next0 HR0.out hb3; have hQ := HR.out.2.2.1.step hbx hl0; have hg0 := hQ.c0; have hg1 := hQ.c1; have HB3 := Lib.hid hbx; clear hb3 hbx hQ)
            | (go_at_call_of 28 exp; refine (Tryd.strconv_FormatInt_10 exp he he2 _ (HR.out.2.2.2.2 _ (Below.next0 HR.out.2.2.2.1 HB3.out))).mono ?_; rintro e w4 ⟨rfl, k4, os4, rfl⟩; have HB4 := Lib.hid (Below.next0 HB3.out (below_grow k4 os4)))
            | (refine HR.out.1.mono ?_; rintro e w1 ⟨rfl, hb1⟩; have hQ := HR.out.2.2.1.step hb1 hl0; have hg2 := hQ.c2; have HB1 := Lib.hid (Below.next0 HR.out.2.2.2.1 hb1); have HR0 := Lib.hid hb1; clear hb1 hQ))
          go_ret
          refine ⟨?_, Below.next0 HR.out.2.2.2.1 HB4.out⟩
          refine congrArg Ending.returned (congrArg Value.string (ByteArray.ext ?_))
          simp [ByteArray.data_append, textN, expT, h0, hneg, HIT.out.1, HIT.out.2]
      · skip
        have hit : Lib.itoa exp = dec m := by { rw [show exp = (m : Int) by omega]; exact Lib.itoa_nonneg m }
        have hitl : (Lib.itoa exp).length ≤ 6 := by { rw [hit]; exact Nat.le_trans hml (by decide) }
        have HIT := Lib.hid (And.intro hit hm)
        clear hit hm hex
        cases neg
        all_goals
          go_enter Tryd.func15, Tryd.ntmps15
          go_wp2_with (first
            | (go_at_call_of 27 a; refine (HR.out.2.1 _ HB1.out).mono ?_; rintro e w3 ⟨rfl, hb3⟩; have hbx := Below.next0 HR0.out hb3; have hQ := HR.out.2.2.1.step hbx hl0; have hg0 := hQ.c0; have hg1 := hQ.c1; have HB3 := Lib.hid hbx; clear hb3 hbx hQ)
            | (go_at_call_of 28 exp; refine (Tryd.strconv_FormatInt_10 exp he he2 _ (HR.out.2.2.2.2 _ (Below.next0 HR.out.2.2.2.1 HB3.out))).mono ?_; rintro e w4 ⟨rfl, k4, os4, rfl⟩; have HB4 := Lib.hid (Below.next0 HB3.out (below_grow k4 os4)))
            | (refine HR.out.1.mono ?_; rintro e w1 ⟨rfl, hb1⟩; have hQ := HR.out.2.2.1.step hb1 hl0; have hg2 := hQ.c2; have HB1 := Lib.hid (Below.next0 HR.out.2.2.2.1 hb1); have HR0 := Lib.hid hb1; clear hb1 hQ))
          go_ret
          refine ⟨?_, Below.next0 HR.out.2.2.2.1 HB4.out⟩
          refine congrArg Ending.returned (congrArg Value.string (ByteArray.ext ?_))
          simp [ByteArray.data_append, textN, expT, h0, hneg, HIT.out.1, HIT.out.2]
  · have htx : textOut neg exp ls = [] := if_neg hnum
    rw [htx]
    rw [decide_eq_false hnum] at hr
    have HR := Lib.hid (And.intro hr (And.intro hN hB0))
    clear hr htx hnum h hN hB0 htab
    go_enter Tryd.func15, Tryd.ntmps15
    go_wp2_with (refine HR.out.1.mono ?_; rintro e w1 ⟨rfl, hb1⟩; have HB1 := Lib.hid (Below.next0 HR.out.2.2 hb1); clear hb1)
    go_ret
    exact ⟨rfl, HB1.out⟩
end Go.Proofs.YtmocmkfpblakbaaDoor
