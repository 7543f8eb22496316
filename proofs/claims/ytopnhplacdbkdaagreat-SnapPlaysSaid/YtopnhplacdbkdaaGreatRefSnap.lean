/- The reference disk's files that are there as a whole: the plain law, the walks of Replace, Save, Load, Clean. Condition: the reference disk lies behind its pointer. -/
import Derived.Test.YtopnhplacdbkdaaGreatSnap
import Derived.Test.YtopnhplacdbkdaaGreatRefCrash
import Derived.Test.YtopnhplacdbkdaaGreatRefNext
namespace Go.Proofs.YtopnhplacdbkdaaGreat
open Go.RowKit DiskM

namespace DiskM
theorem remove_not14 (d : DS) (k : Nm) : (remove d k).1 ≠ 14 := by
  have hh : has d k = 0 ∨ has d k = 12 := by unfold has; split <;> simp
  unfold remove write
  split
  · show (15 : Nat) ≠ 14; omega
  · split
    · show has d k ≠ 14; omega
    · split
      · show (0 : Nat) ≠ 14; omega
      · split
        · show (15 : Nat) ≠ 14; omega
        · show (15 : Nat) ≠ 14; omega
theorem clr_not14 (d : DS) (k : Nm) : (clr d k).1 ≠ 14 := by
  unfold clr
  split
  · exact remove_not14 d k
  · show (0 : Nat) ≠ 14; omega
/-- what is done at the end -/
def fin (k : Nm) (x : Nat × DS) : Nat × DS := if x.1 = 14 then (if (clr x.2 (fr k)).1 = 15 then 15 else 14, (clr x.2 (fr k)).2) else x
theorem turn_0 (k : Nm) (b : List UInt8) (d : DS) : DiskM.turn k b 0 d = clr d (fr k) := rfl
theorem turn_1 (k : Nm) (b : List UInt8) (d : DS) : DiskM.turn k b 1 d = append d (fr k) b := rfl
theorem turn_2 (k : Nm) (b : List UInt8) (d : DS) : DiskM.turn k b 2 d = sync d (fr k) := rfl
theorem turn_3 (k : Nm) (b : List UInt8) (d : DS) : DiskM.turn k b 3 d = rename d (fr k) k := rfl
theorem fin_step (k : Nm) (b : List UInt8) (i : Nat) (hi : i < 4) (d : DS) (h : (DiskM.turn k b i d).1 ≠ 0) : replFrom k b (4 - i) d = fin k (DiskM.turn k b i d) := by
  rw [replFrom_step k b i hi d]
  unfold fin
  split
  · rfl
  · first | rfl | rw [if_neg h]
theorem go_step (k : Nm) (b : List UInt8) (i : Nat) (hi : i < 4) (d : DS) (h : (DiskM.turn k b i d).1 = 0) : replFrom k b (4 - i) d = replFrom k b (4 - (i + 1)) (DiskM.turn k b i d).2 := by
  rw [replFrom_step k b i hi d, if_neg (by omega), if_pos h]
theorem repl_no {d : DS} {k : Nm} {b : List UInt8} (h : (clr d (fr k)).1 ≠ 0) : replace d k b = clr d (fr k) := by
  have := fin_step k b 0 (by omega) d h
  unfold replace
  rw [this, turn_0]
  unfold fin
  rw [if_neg (clr_not14 _ _)]
theorem repl_go {d : DS} {k : Nm} {b : List UInt8} (h : (clr d (fr k)).1 = 0) : replace d k b = replFrom k b 3 (clr d (fr k)).2 := go_step k b 0 (by omega) d h
theorem repl_a {d : DS} {k : Nm} {b : List UInt8} (h : (append d (fr k) b).1 ≠ 0) : replFrom k b 3 d = fin k (append d (fr k) b) := fin_step k b 1 (by omega) d h
theorem repl_s {d : DS} {k : Nm} {b : List UInt8} (h : (append d (fr k) b).1 = 0) : replFrom k b 3 d = replFrom k b 2 (append d (fr k) b).2 := go_step k b 1 (by omega) d h
theorem repl_s' {d : DS} {k : Nm} {b : List UInt8} (h : (sync d (fr k)).1 ≠ 0) : replFrom k b 2 d = fin k (sync d (fr k)) := fin_step k b 2 (by omega) d h
theorem repl_r {d : DS} {k : Nm} {b : List UInt8} (h : (sync d (fr k)).1 = 0) : replFrom k b 2 d = replFrom k b 1 (sync d (fr k)).2 := go_step k b 2 (by omega) d h
theorem repl_end {d : DS} {k : Nm} {b : List UInt8} : replFrom k b 1 d = fin k (rename d (fr k) k) := by
  by_cases h : (rename d (fr k) k).1 = 0
  · have := go_step k b 3 (by omega) d h
    rw [show (4 : Nat) - 3 = 1 from rfl, turn_3] at this
    rw [this]
    unfold fin
    rw [if_neg (by omega)]
    show (0, (rename d (fr k) k).2) = _
    rw [← h]
  · exact fin_step k b 3 (by omega) d h
theorem fin_not {k : Nm} {x : Nat × DS} (h : x.1 ≠ 14) : fin k x = x := by unfold fin; rw [if_neg h]
theorem fin_out {k : Nm} {d : DS} (h : isIn d (fr k) = false) : fin k (14, d) = (14, d) := by
  unfold fin clr
  rw [if_pos rfl]
  show (if (if isIn d (fr k) = true then remove d (fr k) else (0, d)).1 = 15 then 15 else 14, (if isIn d (fr k) = true then remove d (fr k) else (0, d)).2) = _
  rw [h]; rfl
theorem fin_in {k : Nm} {d : DS} (h : isIn d (fr k) = true) : fin k (14, d) = (if (remove d (fr k)).1 = 15 then 15 else 14, (remove d (fr k)).2) := by
  unfold fin clr
  rw [if_pos rfl]
  show (if (if isIn d (fr k) = true then remove d (fr k) else (0, d)).1 = 15 then 15 else 14, (if isIn d (fr k) = true then remove d (fr k) else (0, d)).2) = _
  rw [h]; rfl
end DiskM

/-- the reference disk from a world on -/
def RefFrom (w0 : World) (fq : Nat → Prop) (r : Nat) (d : DS) (w : World) : Prop := ∃ fq', RefAt w fq' r d ∧ (∀ k, fq' k → fq k ∨ w0.heap.size ≤ k) ∧ Turn fq w0 w
def FromIs (w0 : World) (fq : Nat → Prop) (r : Nat) (res : Nat × DS) (e : Ending) (w' : World) : Prop := e = .returned (.int .i64 (res.1 : Nat)) ∧ RefFrom w0 fq r res.2 w'
section
variable {w0 w w' : World} {fq : Nat → Prop} {r : Nat} {d : DS}
theorem RefAt.from_ (h : RefAt w fq r d) : RefFrom w fq r d w := ⟨fq, h, fun _ h => .inl h, Turn.refl _ _⟩
theorem RefFrom.below (h : RefFrom w0 fq r d w) (hb : Below w.heap.size w w') : RefFrom w0 fq r d w' := by
  obtain ⟨fq', h1, h2, h3⟩ := h
  exact ⟨fq', h1.below hb, h2, h3.trans0 (Turn.of_below hb _)⟩
theorem RefFrom.next {fq1 : Nat → Prop} {d' : DS} (hs : ∀ k, fq1 k → fq k ∨ w0.heap.size ≤ k) (ht : Turn fq w0 w) (h : (∃ fq', RefAt w' fq' r d' ∧ ∀ k, fq' k → fq1 k ∨ w.heap.size ≤ k) ∧ Turn fq1 w w') : RefFrom w0 fq r d' w' := by
  obtain ⟨⟨fq', h1, h2⟩, h3⟩ := h
  have hz := ht.size
  refine ⟨fq', h1, fun k hk => ?_, ht.trans h3 fun k hk h => ?_⟩
  · rcases h2 k hk with h | h
    · exact hs k h
    · exact .inr (by omega)
  · rcases hs k h with h | h
    · exact h
    · omega
theorem RefFrom.wrote {f : FuncId} {args : Array Value} {res : Nat × DS} (h : RefFrom w0 fq r d w) (hc : ∀ fq1, RefAt w fq1 r d → (∀ k, fq1 k → fq k ∨ w0.heap.size ≤ k) → Turn fq w0 w → Calls Tryz.prog f args w (RefWrote w fq1 r res)) :
    Calls Tryz.prog f args w (FromIs w0 fq r res) := by
  obtain ⟨fq1, h1, h2, h3⟩ := h
  exact (hc fq1 h1 h2 h3).mono fun e w' ⟨k1, k2, k3⟩ => ⟨k1, RefFrom.next h2 h3 ⟨k2, k3⟩⟩
theorem from_remove (h : RefFrom w0 fq r d w) (s : ByteArray) : Calls Tryz.prog 56 #[.pointer (some ⟨r, 0, none⟩), .string s] w (FromIs w0 fq r (DiskM.remove d s.data.toList)) :=
  h.wrote fun _ h1 _ _ => refremove_any h1 s
theorem from_sync (h : RefFrom w0 fq r d w) (s : ByteArray) : Calls Tryz.prog 85 #[.pointer (some ⟨r, 0, none⟩), .string s] w (FromIs w0 fq r (DiskM.sync d s.data.toList)) :=
  h.wrote fun _ h1 _ _ => refsync_any h1 s
theorem from_rename (h : RefFrom w0 fq r d w) (s t : ByteArray) (ht : t.size ≤ maxLen) : Calls Tryz.prog 86 #[.pointer (some ⟨r, 0, none⟩), .string s, .string t] w (FromIs w0 fq r (DiskM.rename d s.data.toList t.data.toList)) :=
  h.wrote fun _ h1 _ _ => refrename_any h1 s t ht
theorem from_append (h : RefFrom w0 fq r d w) (s : ByteArray) (hs : s.size ≤ maxLen) (ab : Option Addr) (nb cb : Nat) (bs : List UInt8) (hnb : bs.length = nb) (hrd : Rd w0 w0.heap.size ab bs) (hna : bs = [] ∨ ∀ x, ab = some x → ¬ fq x.block) (hfew : d.files.length < 1000000) :
    Calls Tryz.prog 22 #[.pointer (some ⟨r, 0, none⟩), .string s, .slice ab nb cb] w (FromIs w0 fq r (DiskM.append d s.data.toList bs)) :=
  h.wrote fun _ h1 h2 h3 => refappend_any h1 s hs ab nb cb bs hnb ((rd_or hrd h3 (Nat.le_refl _) hna).more h3.size) (by
    rcases hna with he | hna
    · exact .inl he
    rcases hrd with he | ⟨b, o, rfl, hb, _⟩
    · exact .inl he
    · refine .inr fun x hx hq => ?_
      have hx' := hx
      injection hx with hx
      subst hx
      rcases h2 _ hq with h | h
      · exact hna _ hx' h
      · have hb' : b < w0.heap.size := hb
        have h' : w0.heap.size ≤ b := h
        omega) hfew
theorem from_at (h : RefFrom w0 fq r d w) (s : ByteArray) : Calls Tryz.prog 58 #[.pointer (some ⟨r, 0, none⟩), .string s] w fun e w' => (∃ z : Int, e = .returned (.int .i64 z) ∧ ((isIn d s.data.toList = true ∧ 0 ≤ z) ∨ (isIn d s.data.toList = false ∧ z < 0))) ∧ w = w' := by
  obtain ⟨fq1, ⟨a, n, c, L, fv, h1⟩, _, _⟩ := h
  refine (refat_any h1 s).mono ?_
  rintro e w' ⟨⟨z, rfl, hz⟩, rfl⟩
  refine ⟨⟨z, rfl, ?_⟩, rfl⟩
  rcases hz with ⟨i, x, rfl, hx, hk⟩ | ⟨rfl, hno⟩
  · refine .inl ⟨?_, by omega⟩
    unfold isIn
    rw [← hk, h1.look_in hx]; rfl
  · refine .inr ⟨?_, by omega⟩
    unfold isIn
    rw [h1.look_no hno]; rfl
end

set_option maxRecDepth 100000 in
theorem reftemp_any (s : ByteArray) (w : World) (hs : s.size ≤ maxLen) : Calls Tryz.prog 51 #[.string s] w fun e w' => e = .returned (.bool (suf s.data.toList)) ∧ w = w' := by
  unfold maxLen at hs
  by_cases h4 : 4 ≤ s.size
  · have h4' : (4 : Int) ≤ (s.size : Int) := by omega
    have hw : IntKind.i64.wrap ((s.size : Int) - 4) = ((s.size - 4 : Nat) : Int) := by rw [IntKind.wrap_i64]; omega
    go_enter Tryz.func51, Tryz.ntmps51
    go_wp2_with fail
    go_ret
    refine ⟨?_, rfl⟩
    have e : (s.extract (s.size - 4) s.size).toList = s.data.toList.drop (s.data.toList.length - 4) := by
      rw [ByteArray.toList_eq, ByteArray.data_extract, Array.toList_extract]
      have hl : s.size = s.data.toList.length := by simp
      rw [hl, List.extract_eq_take_drop, List.take_of_length_le (by simp)]
    have hl : 4 ≤ s.data.toList.length := by simpa using h4
    show Ending.returned (Value.bool ((s.extract (s.size - 4) s.size).toList == [46, 110, 101, 119])) = _
    rw [e]
    unfold suf
    rw [decide_eq_true hl, Bool.true_and, beq_dec]
    rfl
  · have h4' : ¬ ((4 : Int) ≤ (s.size : Int)) := by omega
    go_enter Tryz.func51, Tryz.ntmps51
    go_wp2_with fail
    go_ret
    refine ⟨?_, rfl⟩
    unfold suf
    rw [decide_eq_false (by simpa using h4), Bool.false_and]
    rfl

set_option maxRecDepth 100000 in
set_option maxHeartbeats 4000000 in
theorem refreplace_any {w : World} {fq : Nat → Prop} {r : Nat} {d : DS} (h : RefAt w fq r d) (s : ByteArray) (hs : s.size + 4 ≤ maxLen) (a : Option Addr) (n c : Nat) (bs : List UInt8) (hn : bs.length = n) (hrd : Rd w w.heap.size a bs) (hna : bs = [] ∨ ∀ x, a = some x → ¬ fq x.block) (hfew : d.files.length < 1000000) :
    Calls Tryz.prog 53 #[.pointer (some ⟨r, 0, none⟩), .string s, .slice a n c] w (RefWrote w fq r (replace d s.data.toList bs)) := by
  have hs' : ¬ (9223372036854775807 < s.size + 4) := by unfold maxLen at hs; omega
  have hf0 : RefFrom w fq r d w := h.from_
  obtain ⟨F, hF⟩ : ∃ F, F = s ++ (⟨#[46, 110, 101, 119]⟩ : ByteArray) := ⟨_, rfl⟩
  have hFd : F.data.toList = fr s.data.toList := by rw [hF]; show (s ++ (⟨#[46, 110, 101, 119]⟩ : ByteArray)).data.toList = s.data.toList ++ [46, 110, 101, 119]; simp
  have hFs : F.size ≤ maxLen := by rw [hF, ByteArray.size_append]; exact hs
  have hss : s.size ≤ maxLen := by omega
  obtain ⟨k, hk⟩ : ∃ k, s.data.toList = k := ⟨_, rfl⟩
  rw [hk] at hFd ⊢
  have HKN := Lib.hid hk
  have HFD := Lib.hid hFd
  have HFS := Lib.hid hFs
  have HSS := Lib.hid hss
  have HRD := Lib.hid hrd
  have HNA := Lib.hid hna
  have HN := Lib.hid hn
  have HF0 := Lib.hid hf0
  obtain ⟨R, hR⟩ : ∃ R, replace d k bs = R := ⟨_, rfl⟩
  rw [hR]
  have HR := Lib.hid hR
  have HFEW := Lib.hid (show (clr d (fr k)).2.files.length < 1000000 from Nat.lt_of_le_of_lt (clr_len d (fr k)) hfew)
  clear hk hFd hFs hss hrd hna hn hf0 hs hfew h hR
  go_enter Tryz.func53, Tryz.ntmps53
  go_wp2_with fail
  rw [← hF]
  clear hF
  refine (from_at HF0.out F).mono ?_
  rintro e w' ⟨⟨z, rfl, hz⟩, rfl⟩
  rw [HFD.out] at hz
  go_upto_if 16 with fail
  go_cut [] (fun wx => RefFrom w fq r (clr d (fr k)).2 wx ∧ (clr d (fr k)).1 = 0)
  case first =>
    rcases hz with ⟨hi, hz⟩ | ⟨hi, hz⟩
    · have HC := Lib.hid (show clr d (fr k) = remove d (fr k) by unfold clr; rw [if_pos hi])
      clear hi
      go_wp2_with fail
      refine (from_remove HF0.out F).mono ?_
      rw [HFD.out, ← HC.out]
      rintro e w1 ⟨rfl, hf1⟩
      have HF1 := Lib.hid hf1
      clear hf1
      obtain ⟨q, hq⟩ : ∃ q, (clr d (fr k)).1 = q := ⟨_, rfl⟩
      rw [hq]
      have HQ := Lib.hid hq
      clear hq
      by_cases h0 : q = 0
      · subst h0
        go_wp2_with fail
        go_meet
        exact ⟨HF1.out, HQ.out⟩
      · have hne : ((q : Int) != 0) = true := by rw [bne_iff_ne]; omega
        have hne' : ¬ ((q : Int) = 0) := by omega
        have HE := Lib.hid (show R = clr d (fr k) by rw [← HR.out]; exact repl_no (by rw [HQ.out]; exact h0))
        clear h0
        go_wp2_with fail
        go_ret
        rw [HE.out]
        exact ⟨by rw [HQ.out]; rfl, (HF1.out).imp fun _ h => ⟨h.1, h.2.1⟩, HF1.out.elim fun _ h => h.2.2⟩
    · have hz' : ¬ ((0 : Int) ≤ z) := by omega
      have HC := Lib.hid (show clr d (fr k) = (0, d) by unfold clr; rw [hi]; rfl)
      clear hi hz
      go_wp2_with fail
      go_meet
      rw [HC.out]
      exact ⟨HF0.out, rfl⟩
  case rest =>
    obtain ⟨hf1, hc1⟩ := hcut
    have HF1 := Lib.hid hf1
    have HG := Lib.hid (show R = replFrom k bs 3 (clr d (fr k)).2 by rw [← HR.out]; exact repl_go hc1)
    obtain ⟨D1, hD1⟩ : ∃ D1, (clr d (fr k)).2 = D1 := ⟨_, rfl⟩
    rw [hD1] at HF1 HG HFEW
    clear hD1 hf1 hc1 hz
    go_wp2_with fail
    refine (from_append HF1.out F HFS.out a n c bs HN.out HRD.out HNA.out HFEW.out).mono ?_
    rw [HFD.out]
    rintro e w2 ⟨rfl, hf2⟩
    have HF2 := Lib.hid hf2
    clear hf2
    obtain ⟨A, hA⟩ : ∃ A, append D1 (fr k) bs = A := ⟨_, rfl⟩
    rw [hA] at HF2 ⊢
    have HA := Lib.hid hA
    obtain ⟨q, D2⟩ := A
    clear hA
    go_upto_if 28 with fail
    go_cut [9] (fun v wx => ∃ x : Nat × DS, v = .int .i64 (x.1 : Nat) ∧ RefFrom w fq r x.2 wx ∧ (x.1 = 0 → R = fin k (rename x.2 (fr k) k)) ∧ (x.1 ≠ 0 → R = fin k x))
    case first =>
      by_cases h0 : q = 0
      · subst h0
        go_wp2_with fail
        refine (from_sync HF2.out F).mono ?_
        rw [HFD.out]
        rintro e w3 ⟨rfl, hf3⟩
        have HF3 := Lib.hid hf3
        clear hf3
        go_wp2_with fail
        go_meet
        have e2 : R = replFrom k bs 2 D2 := by
          have := repl_s (b := bs) (d := D1) (k := k) (by rw [HA.out])
          rw [HA.out] at this
          rw [HG.out, this]
        refine ⟨sync D2 (fr k), rfl, HF3.out, fun h => ?_, fun h => ?_⟩
        · rw [e2, repl_r h, repl_end]
        · rw [e2, repl_s' h]
      · have hne : ((q : Int) == 0) = false := by rw [beq_eq_false_iff_ne]; omega
        have hne' : ¬ ((q : Int) = 0) := by omega
        have HE := Lib.hid (show R = fin k (q, D2) by
          have := repl_a (b := bs) (d := D1) (k := k) (by rw [HA.out]; exact h0)
          rw [HA.out] at this
          rw [HG.out, this])
        have HQ0 := Lib.hid h0
        clear h0
        go_wp2_with fail
        go_meet
        exact ⟨(q, D2), rfl, HF2.out, fun h => absurd h HQ0.out, fun _ => HE.out⟩
    case rest =>
      obtain ⟨⟨q3, D3⟩, rfl, hf3, hx0, hx1⟩ := hcut
      have HF3 := Lib.hid hf3
      have HX0 := Lib.hid hx0
      have HX1 := Lib.hid hx1
      clear hf3 hx0 hx1 HF2 HF1
      go_upto_if 33 with fail
      go_cut [9] (fun v wx => ∃ x : Nat × DS, v = .int .i64 (x.1 : Nat) ∧ RefFrom w fq r x.2 wx ∧ R = fin k x)
      case first =>
        by_cases h0 : q3 = 0
        · subst h0
          have HX2 := Lib.hid (HX0.out rfl)
          go_wp2_with fail
          refine (from_rename HF3.out F s HSS.out).mono ?_
          rw [HFD.out, HKN.out]
          rintro e w4 ⟨rfl, hf4⟩
          have HF4 := Lib.hid hf4
          clear hf4
          go_wp2_with fail
          go_meet
          exact ⟨_, rfl, HF4.out, HX2.out⟩
        · have hne : ((q3 : Int) == 0) = false := by rw [beq_eq_false_iff_ne]; omega
          have hne' : ¬ ((q3 : Int) = 0) := by omega
          have HQ0 := Lib.hid h0
          clear h0
          go_wp2_with fail
          go_meet
          exact ⟨(q3, D3), rfl, HF3.out, HX1.out HQ0.out⟩
      case rest =>
        obtain ⟨⟨q4, D4⟩, rfl, hf4, hx4⟩ := hcut
        have HF4 := Lib.hid hf4
        have HX4 := Lib.hid hx4
        clear hf4 hx4 HF3 HX0 HX1
        by_cases h14 : q4 = 14
        · subst h14
          go_wp2_with fail
          refine (from_at HF4.out F).mono ?_
          rintro e w' ⟨⟨z, rfl, hz⟩, rfl⟩
          rw [HFD.out] at hz
          rcases hz with ⟨hi, hz⟩ | ⟨hi, hz⟩
          · have HE := Lib.hid (show R = _ from HX4.out.trans (fin_in hi))
            clear hi
            go_wp2_with fail
            refine (from_remove HF4.out F).mono ?_
            rw [HFD.out]
            obtain ⟨T, hT⟩ : ∃ T, remove D4 (fr k) = T := ⟨_, rfl⟩
            rw [hT] at HE ⊢
            clear hT
            obtain ⟨q5, D5⟩ := T
            rintro e w5 ⟨rfl, hf5⟩
            have HF5 := Lib.hid hf5
            clear hf5
            by_cases h15 : q5 = 15
            · subst h15
              go_wp2_with fail
              go_ret
              rw [HE.out]
              exact ⟨rfl, (HF5.out).imp fun _ h => ⟨h.1, h.2.1⟩, HF5.out.elim fun _ h => h.2.2⟩
            · have hne : ((q5 : Int) == 15) = false := by rw [beq_eq_false_iff_ne]; omega
              have hne' : ¬ ((q5 : Int) = 15) := by omega
              have HE2 := Lib.hid (show R = (14, D5) by rw [HE.out, if_neg h15])
              clear h15
              go_wp2_with fail
              go_ret
              rw [HE2.out]
              exact ⟨rfl, (HF5.out).imp fun _ h => ⟨h.1, h.2.1⟩, HF5.out.elim fun _ h => h.2.2⟩
          · have hz' : ¬ ((0 : Int) ≤ z) := by omega
            have HE := Lib.hid (show R = _ from HX4.out.trans (fin_out hi))
            clear hi hz
            go_wp2_with fail
            go_ret
            rw [HE.out]
            exact ⟨rfl, (HF4.out).imp fun _ h => ⟨h.1, h.2.1⟩, HF4.out.elim fun _ h => h.2.2⟩
        · have hne : ((q4 : Int) == 14) = false := by rw [beq_eq_false_iff_ne]; omega
          have hne' : ¬ ((q4 : Int) = 14) := by omega
          have HE := Lib.hid (show R = (q4, D4) by rw [HX4.out]; exact fin_not h14)
          clear h14
          go_wp2_with fail
          go_ret
          rw [HE.out]
          exact ⟨rfl, (HF4.out).imp fun _ h => ⟨h.1, h.2.1⟩, HF4.out.elim fun _ h => h.2.2⟩

set_option maxRecDepth 100000 in
set_option maxHeartbeats 4000000 in
theorem refsave_any {w : World} {fq : Nat → Prop} {r : Nat} {d : DS} (h : RefAt w fq r d) (s : ByteArray) (hs : s.size + 4 ≤ maxLen) (a : Option Addr) (n c : Nat) (bs : List UInt8) (hn : bs.length = n) (hm : n ≤ 65536) (hrd : Rd w w.heap.size a bs) (hfew : d.files.length < 1000000) :
    Calls Tryz.prog 19 #[.pointer (some ⟨r, 0, none⟩), .string s, .slice a n c] w (RefWrote w fq r (save d s.data.toList bs)) := by
  have hs' : ¬ (9223372036854775807 < s.size + 4) := by unfold maxLen at hs; omega
  obtain ⟨F, hF⟩ : ∃ F, F = s ++ (⟨#[46, 110, 101, 119]⟩ : ByteArray) := ⟨_, rfl⟩
  have hFd : F.data.toList = fr s.data.toList := by rw [hF]; show (s ++ (⟨#[46, 110, 101, 119]⟩ : ByteArray)).data.toList = s.data.toList ++ [46, 110, 101, 119]; simp
  have hFs : F.size ≤ maxLen := by rw [hF, ByteArray.size_append]; exact hs
  have HS := Lib.hid hs
  have HK := Lib.hid h
  have HN := Lib.hid hn
  have HRD := Lib.hid hrd
  have HFEW := Lib.hid hfew
  have HFS := Lib.hid hFs
  clear hs h hn hrd hfew hFs
  by_cases h1 : named s.data.toList = true
  rotate_left
  · have hv : save d s.data.toList bs = (1, d) := by unfold save saves; rw [show named s.data.toList = false by simpa using h1]; rfl
    rw [hv]
    have h1' : named s.data.toList = false := by simpa using h1
    have H1 := Lib.hid h1'
    clear h1 hv h1' hF hFd
    go_enter Tryz.func19, Tryz.ntmps19
    go_wp2_with fail
    refine (refname_any s _ (by have := HS.out; omega)).mono ?_
    rw [H1.out]
    rintro e w' ⟨rfl, rfl⟩
    go_wp2_with fail
    go_ret
    exact ⟨rfl, ⟨fq, HK.out, fun k hk => .inl hk⟩, Turn.refl _ _⟩
  by_cases h2 : named (fr s.data.toList) = true
  rotate_left
  · have h2' : named (fr s.data.toList) = false := by simpa using h2
    have hv : save d s.data.toList bs = (1, d) := by unfold save saves; rw [h1, h2']; rfl
    rw [hv]
    have H1 := Lib.hid h1
    have H2 := Lib.hid h2'
    have HFD := Lib.hid hFd
    clear h1 h2 hv h2' hFd
    go_enter Tryz.func19, Tryz.ntmps19
    go_wp2_with fail
    refine (refname_any s _ (by have := HS.out; omega)).mono ?_
    rw [H1.out]
    rintro e w' ⟨rfl, rfl⟩
    go_wp2_with fail
    rw [← hF]
    refine (refname_any F _ HFS.out).mono ?_
    rw [HFD.out, H2.out]
    rintro e w' ⟨rfl, rfl⟩
    go_wp2_with fail
    go_ret
    exact ⟨rfl, ⟨fq, HK.out, fun k hk => .inl hk⟩, Turn.refl _ _⟩
  have H1 := Lib.hid h1
  have H2 := Lib.hid h2
  have HFD := Lib.hid hFd
  have HC5 := Lib.hid (show w.cell? ⟨r, 5, none⟩ = some (.bool d.down) by obtain ⟨_, _, _, _, _, h⟩ := HK.out; exact cell_of_row _ _ 5 _ _ _ h.cells)
  have HRL := Lib.hid (show r < w.heap.size by obtain ⟨_, _, _, _, _, h⟩ := HK.out; exact h.lt r h.fqr)
  clear h1 h2 hFd
  go_enter Tryz.func19, Tryz.ntmps19
  go_wp2_with fail
  refine (refname_any s _ (by have := HS.out; omega)).mono ?_
  rw [H1.out]
  rintro e w' ⟨rfl, rfl⟩
  go_wp2_with fail
  rw [← hF]
  refine (refname_any F _ HFS.out).mono ?_
  rw [HFD.out, H2.out]
  rintro e w' ⟨rfl, rfl⟩
  go_wp2_with fail
  refine (reftemp_any s _ (by have := HS.out; omega)).mono ?_
  rintro e w' ⟨rfl, rfl⟩
  by_cases h3 : suf s.data.toList = true
  · have hv : save d s.data.toList bs = (1, d) := by unfold save saves; rw [H1.out, H2.out, h3]; rfl
    have HV := Lib.hid hv
    rw [h3]
    clear hv h3
    go_wp2_with fail
    go_ret
    rw [HV.out]
    exact ⟨rfl, ⟨fq, HK.out, fun k hk => .inl hk⟩, Turn.refl _ _⟩
  have h3' : suf s.data.toList = false := by simpa using h3
  have hsv : saves s.data.toList = true := by unfold saves; rw [H1.out, H2.out, h3']; rfl
  rw [h3']
  have HSV := Lib.hid hsv
  clear h3 h3' hsv
  go_wp2_with fail
  refine (reflogput_any a n c bs _ HN.out hm HRD.out).mono ?_
  rintro e w1 ⟨a1, c1, rfl, ho1, hb1⟩
  have HO1 := Lib.hid ho1
  have HK1 := Lib.hid (HK.out.below hb1)
  have HB1 := Lib.hid hb1
  have hc5 := (hb1.cell (p := ⟨r, 5, none⟩) HRL.out).trans HC5.out
  clear ho1 hb1
  by_cases h4 : d.down = true
  · have HV := Lib.hid (show save d s.data.toList bs = (15, d) by unfold save; rw [HSV.out, h4]; rfl)
    rw [h4] at hc5
    clear h4
    go_wp2_with fail
    go_ret
    rw [HV.out]
    exact ⟨rfl, ⟨fq, HK1.out, fun k hk => .inl hk⟩, Turn.of_below HB1.out _⟩
  have h4' : d.down = false := by simpa using h4
  have HV := Lib.hid (show save d s.data.toList bs = replace d s.data.toList (LogM.put bs) by unfold save; rw [HSV.out, h4']; rfl)
  rw [h4'] at hc5
  clear h4 h4'
  go_wp2_with fail
  refine (refreplace_any HK1.out s HS.out a1 (n + 12) c1 (LogM.put bs) HO1.out.len (HO1.out.rd) (.inr fun x hx hq => by have h1 := (HO1.out.blk_lt _ ⟨x, hx, rfl⟩).1; have h2 := HK.out.lt _ hq; omega) HFEW.out).mono ?_
  rintro e w3 ⟨rfl, ⟨fq3, hk3, hn3⟩, ht3⟩
  have HK3 := Lib.hid hk3
  have HN3 := Lib.hid hn3
  have HT3 := Lib.hid ht3
  clear hk3 hn3 ht3
  go_wp2_with fail
  go_ret
  rw [HV.out]
  have hz := HB1.out.size
  exact ⟨rfl, ⟨fq3, HK3.out, fun k hk => (HN3.out k hk).imp id fun h => by omega⟩, (Turn.of_below HB1.out _).trans0 HT3.out⟩

theorem DiskM.next_le (x : List UInt8) (h : (LogM.next x).2.2 = 0) : (LogM.next x).2.1 ≤ x.length := by
  revert h
  unfold LogM.next
  split
  · intro h; exact absurd h (by decide)
  · split
    · intro h; exact absurd h (by decide)
    · split
      · intro h; exact absurd h (by decide)
      · rename_i h3
        split
        · intro h; exact absurd h (by decide)
        · intro _
          show LogM.numAt x 0 + 12 ≤ x.length
          omega

set_option maxRecDepth 100000 in
set_option maxHeartbeats 4000000 in
theorem refload_any {w : World} {fq : Nat → Prop} {r : Nat} {d : DS} (h : RefAt w fq r d) (s : ByteArray) :
    Calls Tryz.prog 20 #[.pointer (some ⟨r, 0, none⟩), .string s] w (BytesIs w (DiskM.load d s.data.toList)) := by
  have hlen := read_len h.ok s.data.toList
  go_enter Tryz.func20, Tryz.ntmps20
  go_wp2_with fail
  refine (refread_any h s).mono ?_
  have HL := Lib.hid (show DiskM.load d s.data.toList = if (DiskM.read d s.data.toList).2 = 0 then loadOf (DiskM.read d s.data.toList).1 else ([], (DiskM.read d s.data.toList).2) from rfl)
  obtain ⟨r, hr⟩ : ∃ r, DiskM.read d s.data.toList = r := ⟨_, rfl⟩
  rw [hr] at HL hlen ⊢
  clear hr
  obtain ⟨X, e⟩ := r
  rintro _ w1 ⟨a, c, rfl, hown, hb1⟩
  have HO := Lib.hid hown
  have HB := Lib.hid hb1
  have hlX : X.length ≤ 16777216 := hlen
  clear hown hb1 hlen h
  by_cases h0 : e = 0
  rotate_left
  · have hne : ((e : Int) != 0) = true := by rw [bne_iff_ne]; omega
    have hne' : ¬ ((e : Int) = 0) := by omega
    have HV := Lib.hid (show DiskM.load d s.data.toList = ([], e) by rw [HL.out, if_neg h0])
    clear h0
    go_wp2_with fail
    go_ret2
    rw [HV.out]
    exact ⟨none, 0, rfl, Own.nil_ _ _, HB.out⟩
  subst h0
  have hcap : X.length ≤ c ∧ c ≤ maxLen := HO.out.cap
  unfold maxLen at hcap
  go_wp2_with fail
  refine (refnext_any a X.length c X _ rfl (by omega) hcap.1 hcap.2 (HO.out.rd)).mono ?_
  have HL2 := Lib.hid (show DiskM.load d s.data.toList = loadOf X from HL.out)
  have HNL := Lib.hid (DiskM.next_le X)
  obtain ⟨q, hq⟩ : ∃ q, LogM.next X = q := ⟨_, rfl⟩
  have hlo : loadOf X = if q.2.2 = 0 ∧ ¬ q.2.1 < X.length then (q.1, 0) else ([], 11) := by unfold loadOf; rw [hq]
  rw [hq] at HNL ⊢
  obtain ⟨Y, N, E⟩ := q
  have HLO := Lib.hid (show loadOf X = if E = 0 ∧ ¬ N < X.length then (Y, 0) else ([], 11) from hlo)
  clear hq hlo HL
  rintro _ w2 ⟨a2, c2, rfl, ho2, hb2⟩
  have HO2 := Lib.hid (show Own w2 w1.heap.size a2 Y.length c2 Y from ho2)
  have HB2 := Lib.hid (Below.next0 HB.out hb2)
  have HS1 := Lib.hid HB.out.size
  clear ho2 hb2
  by_cases hE : E = 0
  · subst hE
    have hNX : N ≤ X.length := HNL.out rfl
    by_cases hN : N < X.length
    · have HV := Lib.hid (show DiskM.load d s.data.toList = ([], 11) by rw [HL2.out, HLO.out, if_neg (fun h => h.2 hN)])
      have hN' : ((N : Int) != (X.length : Int)) = true := by rw [bne_iff_ne]; omega
      have hN2 : ¬ ((N : Int) = (X.length : Int)) := by omega
      clear hN
      go_wp2_with fail
      go_ret2
      rw [HV.out]
      exact ⟨none, 0, rfl, Own.nil_ _ _, HB2.out⟩
    · have HV := Lib.hid (show DiskM.load d s.data.toList = (Y, 0) by rw [HL2.out, HLO.out, if_pos ⟨rfl, hN⟩])
      obtain rfl : N = X.length := by omega
      clear hN hNX
      go_wp2_with fail
      go_ret2
      rw [HV.out]
      exact ⟨a2, c2, rfl, HO2.out.lower HS1.out, HB2.out⟩
  · have HV := Lib.hid (show DiskM.load d s.data.toList = ([], 11) by rw [HL2.out, HLO.out, if_neg (fun h => hE h.1)])
    have hne : ((E : Int) != 0) = true := by rw [bne_iff_ne]; omega
    have hne' : ¬ ((E : Int) = 0) := by omega
    clear hE
    go_wp2_with fail
    go_ret2
    rw [HV.out]
    exact ⟨none, 0, rfl, Own.nil_ _ _, HB2.out⟩

set_option maxRecDepth 100000 in
set_option maxHeartbeats 4000000 in
theorem refclean_any {w : World} {fq : Nat → Prop} {r : Nat} {d : DS} (h : RefAt w fq r d) :
    Calls Tryz.prog 21 #[.pointer (some ⟨r, 0, none⟩)] w (RefWrote w fq r (clean d)) := by
  have hc5 : w.cell? ⟨r, 5, none⟩ = some (.bool d.down) := by obtain ⟨_, _, _, _, _, h⟩ := h; exact cell_of_row _ _ 5 _ _ _ h.cells
  have HLT := Lib.hid h.lt
  by_cases h4 : d.down = true
  · have HV := Lib.hid (show clean d = (15, d) by unfold clean; rw [h4]; rfl)
    rw [h4] at hc5
    clear h4
    go_enter Tryz.func21, Tryz.ntmps21
    go_wp2_with fail
    go_ret
    rw [HV.out]
    exact ⟨rfl, ⟨fq, h, fun k hk => .inl hk⟩, Turn.refl _ _⟩
  have h4' : d.down = false := by simpa using h4
  have HV := Lib.hid (show clean d = cleanL (namesOf d) d by unfold clean; rw [h4']; rfl)
  rw [h4'] at hc5
  have hfew : (namesOf d).length ≤ 1000000 := by have := h.ok.few; simpa [namesOf] using this
  have hnl : ∀ x ∈ namesOf d, x.length ≤ 16 := fun x hx => by
    obtain ⟨y, hy, rfl⟩ := List.mem_map.1 hx
    exact h.ok.name y hy
  clear h4 h4'
  go_enter Tryz.func21, Tryz.ntmps21
  go_wp2_with fail
  refine (reflist_any h).mono ?_
  obtain ⟨ns, hns⟩ : ∃ ns, namesOf d = ns := ⟨_, rfl⟩
  rw [hns] at HV hfew hnl ⊢
  rintro e w1 ⟨a, c, rfl, hrow, hb1⟩
  have hf1 : RefFrom w1 fq r d w1 := (h.below hb1).from_
  obtain ⟨R, hR⟩ : ∃ R, R = cleanL ns d := ⟨_, rfl⟩
  rw [← hR] at HV
  have HR := Lib.hid hR
  have HNL := Lib.hid hnl
  have HF1 := Lib.hid hf1
  have HB1 := Lib.hid hb1
  clear hns hb1 hf1 h hR hnl hc5
  go_wp2_with fail
  go_loopw [4] (fun v wr => ∃ (i : Nat) (d' : DS), v = .int .i64 i ∧ i ≤ ns.length ∧ RefFrom w1 fq r d' wr ∧ cleanL (ns.drop i) d' = R) (fun v _ => ns.length - (intOf v).toNat)
  case atStart => exact ⟨0, d, rfl, Nat.zero_le _, HF1.out, HR.out.symm⟩
  case round =>
    obtain ⟨i, d', rfl, hi, hk, hc⟩ := hrel
    have HK := Lib.hid hk
    have fin : ∀ (r' : Nat × DS) (W : World), R = r' → RefFrom w1 fq r r'.2 W → RefWrote w fq r R (.returned (.int .i64 (r'.1 : Nat))) W := fun r' W he h1 => by
      rw [he]
      obtain ⟨fq', k1, k2, k3⟩ := h1
      have hz := HB1.out.size
      exact ⟨rfl, ⟨fq', k1, fun k hk => (k2 k hk).imp id fun h => by omega⟩, (Turn.of_below HB1.out _).trans0 k3⟩
    have FIN := Lib.hid fin
    by_cases hlt : i < ns.length
    · obtain ⟨nm, hnm⟩ : ∃ nm, ns[i]? = some nm := ⟨_, List.getElem?_eq_getElem hlt⟩
      obtain ⟨g, rfl, hgB, hgl, hgc⟩ := hrow.at_ (j := i) (x := encStr nm) (by rw [List.getElem?_map, hnm]; rfl)
      have hgc' : wr.cell? ⟨g, i, none⟩ = some (.string ⟨nm.toArray⟩) := by
        obtain ⟨_, _, _, k3⟩ := hk
        exact (k3.cell (p := ⟨g, i, none⟩) hgl (fun hq => by have h2 := HLT.out _ hq; have h3 : w.heap.size ≤ g := hgB; have h4 : g < w.heap.size := h2; omega)).trans hgc
      have hlt' : (i : Int) < (ns.length : Int) := by omega
      rw [cleanL_drop ns i nm hnm] at hc
      have hsz : (⟨nm.toArray⟩ : ByteArray).size ≤ maxLen := by
        have := HNL.out nm (List.mem_of_getElem? hnm)
        show nm.toArray.size ≤ _
        unfold maxLen; simp; omega
      have HC := Lib.hid hc
      have HSZ := Lib.hid hsz
      clear hk hc fin hgc hnm hsz
      go_wp2_with fail
      refine (reftemp_any ⟨nm.toArray⟩ _ HSZ.out).mono ?_
      rintro e w' ⟨rfl, rfl⟩
      rw [show suf (⟨nm.toArray⟩ : ByteArray).data.toList = suf nm from rfl]
      by_cases hsf : suf nm = true
      · have hc := HC.out
        rw [if_pos hsf] at hc
        have HC2 := Lib.hid hc
        rw [hsf]
        clear hc HC hsf
        go_wp2_with fail
        refine (from_remove HK.out ⟨nm.toArray⟩).mono ?_
        rw [show remove d' (⟨nm.toArray⟩ : ByteArray).data.toList = remove d' nm from rfl]
        obtain ⟨q, hq⟩ : ∃ q, remove d' nm = q := ⟨_, rfl⟩
        rw [hq] at HC2 ⊢
        clear hq
        obtain ⟨qe, qd⟩ := q
        rintro e w3 ⟨rfl, hk3⟩
        have HK3 := Lib.hid hk3
        clear hk3 HK
        by_cases h0 : qe = 0
        · subst h0
          have HC3 := Lib.hid (show cleanL (ns.drop (i + 1)) qd = R from HC2.out)
          go_wp2_with fail
          go_roundw
          case rel => exact ⟨i + 1, qd, by go_num, by omega, HK3.out, HC3.out⟩
          case measure => simp [intOf]; omega
        · have HE := Lib.hid (show R = (qe, qd) from by rw [← HC2.out, if_neg h0])
          have hne2 : ((qe : Int) != 0) = true := by rw [bne_iff_ne]; omega
          have hne2' : ¬ ((qe : Int) = 0) := by omega
          go_wp2_with fail
          go_ret
          first | exact FIN.out (qe, qd) _ HE.out HK3.out | (rw [HV.out]; exact FIN.out (qe, qd) _ HE.out HK3.out)
      · have hc := HC.out
        rw [if_neg hsf] at hc
        have hsf' : suf nm = false := by simpa using hsf
        have HC2 := Lib.hid hc
        rw [hsf']
        clear hc HC hsf hsf'
        go_wp2_with fail
        go_roundw
        case rel => exact ⟨i + 1, d', by go_num, by omega, HK.out, HC2.out⟩
        case measure => simp [intOf]; omega
    · obtain rfl : i = ns.length := by omega
      rw [List.drop_length] at hc
      have HE := Lib.hid (show R = (0, d') from hc.symm)
      clear hk hc fin
      go_wp2_with fail
      go_ret
      first | exact FIN.out (0, d') _ HE.out HK.out | (rw [HV.out]; exact FIN.out (0, d') _ HE.out HK.out)
end Go.Proofs.YtopnhplacdbkdaaGreat
