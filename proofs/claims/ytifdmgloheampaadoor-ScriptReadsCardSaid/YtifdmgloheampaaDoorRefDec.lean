/- The walk of the document's Decimal: the decimal digits of a natural number. Condition: it lies as a row of 32 bits; its length is small. -/
import Derived.Test.YtifdmgloheampaaDoorRefNum
namespace Go.Proofs.YtifdmgloheampaaDoor
open Go.RowKit NatM

theorem or32 (c m : Nat) (hc : c < 4294967296) (hm : m < 4294967296) : bits BinOp.or IntKind.u64 ((c * 4294967296 : Nat) : Int) (m : Int) = ((c * 4294967296 + m : Nat) : Int) := by
  rw [u64_or_nat _ _ (by omega) (by omega)]
  have := Nat.shiftLeft_add_eq_or_of_lt (a := c) (i := 32) (b := m) hm
  rw [Nat.shiftLeft_eq] at this
  rw [show c * 4294967296 = c * 2 ^ 32 from rfl, ← this]
theorem cons_text (d : UInt8) (t : List UInt8) : Value.string ((⟨#[d]⟩ : ByteArray) ++ ⟨t.toArray⟩) = sv (d :: t) := by
  refine congrArg Value.string (ByteArray.ext ?_)
  simp [ByteArray.data_append]
/-- one cell more ahead -/
theorem row_store {w0 w : World} {H j n B : Nat} {T : TypeId} {cs : Array Value} {xs : List Value} (hh : w.heap[H]? = some (.cells cs T (0, 0))) (hs : cs.size = n) (hc : cs.toList.drop (j + 1) = xs) (hj : j < n) (v : Value) (hb : Below B w0 w) (hB : B ≤ H) :
    ∃ cs', (w.setCell ⟨H, j, none⟩ v).heap[H]? = some (.cells cs' T (0, 0)) ∧ cs'.size = n ∧ cs'.toList.drop j = v :: xs ∧ Below B w0 (w.setCell ⟨H, j, none⟩ v) := by
  refine ⟨cs.setIfInBounds j v, heap_setCell_same _ _ _ _ _ _ hh, by simpa using hs, ?_, hb.setCell hB _⟩
  rw [Array.toList_setIfInBounds, List.drop_eq_getElem_cons (by simp; omega), List.getElem_set_self, ← hc]
  rw [List.drop_set_of_lt (by omega)]
theorem drop_one {α : Type} (l : List α) (i : Nat) (m : α) (h : l[i]? = some m) : l.drop i = m :: l.drop (i + 1) := by
  obtain ⟨hi, rfl⟩ := List.getElem?_eq_some_iff.1 h
  exact List.drop_eq_getElem_cons hi
set_option maxRecDepth 100000 in
set_option maxHeartbeats 4000000 in
theorem refdec_any (a : Option Addr) (n c : Nat) (ms : List Nat) (w : World) (hn : ms.length = n) (hm : n ≤ 1000000) (hc : n ≤ c) (hc' : c ≤ 9223372036854775807) (h : RdN .u32 w w.heap.size a ms) (hs : small ms) :
    Calls Tryd.prog 51 #[.slice a n c] w fun e w' => e = .returned (sv (Lib.decDigits (val ms))) ∧ Below w.heap.size w w' := by
  rcases Nat.eq_zero_or_pos n with rfl | hn0
  · obtain rfl : ms = [] := List.length_eq_zero_iff.1 hn
    clear h hs hn
    have HD := Lib.hid (show Lib.decDigits (val []) = [48] by simp [val, Lib.decDigits])
    go_enter Tryd.func51, Tryd.ntmps51
    go_wp2_with fail
    go_ret
    rw [HD.out]
    exact ⟨rfl, Below.refl _ _⟩
  have hn0' : ((n : Int) == 0) = false := by rw [beq_eq_false_iff_ne]; omega
  have hn0'' : ¬ (n : Int) = 0 := by omega
  have H := Lib.hid (And.intro h (And.intro hs hn))
  clear h hs hn
  go_enter Tryd.func51, Tryd.ntmps51
  go_wp2_with fail
  go_loopg [0, 3] (2 * val ms + 1) (fun g mv tv wr => ∃ (k : Nat) (cc : Nat) (ao : Option Addr) (ls : List Nat) (t : List UInt8), mv = .slice ao k cc ∧ tv = sv t ∧ ls.length = k ∧ k ≤ n ∧ k ≤ cc ∧ cc ≤ 9223372036854775807 ∧ RdN .u32 wr wr.heap.size ao ls ∧ small ls ∧ (ls = [] → val ls = 0) ∧
    Lib.decDigits (val ms) = (if ls = [] then [] else Lib.decDigits (val ls)) ++ t ∧ g = 2 * val ls + (if ls = [] then 0 else 1) ∧ Below w.heap.size w wr)
  case atStart =>
    obtain ⟨h, hs, hn⟩ := H.out
    have hne : ms ≠ [] := by intro e; rw [e] at hn; simp at hn; omega
    exact ⟨n, c, a, ms, [], rfl, rfl, hn, Nat.le_refl _, hc, hc', h, hs, fun e => absurd e hne, by rw [if_neg hne]; simp, by rw [if_neg hne], Below.refl _ _⟩
  case round =>
    obtain ⟨k, cc, ao, ls, t, rfl, rfl, hl, hk, hcc, hcc', hrd, hsm, _, hdec, hg, hbel⟩ := hrel
    generalize wr = W1 at *
    rcases Nat.eq_zero_or_pos k with rfl | hk0
    · obtain rfl : ls = [] := List.length_eq_zero_iff.1 hl
      have HD := Lib.hid (show Lib.decDigits (val ms) = t by rw [hdec]; simp)
      have HB := Lib.hid hbel
      clear hdec hg hbel hrd hsm hl
      go_wp2_with fail
      go_ret
      rw [HD.out]; exact ⟨rfl, HB.out⟩
    · have hk0' : (0 : Int) < (k : Int) := by omega
      have HE := Lib.hid (And.intro hrd (And.intro hsm (And.intro hl (And.intro hdec (And.intro hg hbel)))))
      have hmk := run_make_row' (P := Tryd.prog) 87 28 (.int .u32 0) 4 Tryd.underlying87 info_u32 rfl .i64 .i64 k (by omega) (by omega)
      clear hrd hsm hl hdec hg hbel
      go_wp2_with fail
      go_loopw [5, 6] (fun cv iv wx => ∃ (i : Nat) (cs : Array Value), iv = .int .i64 ((i : Int) - 1) ∧ cv = .int .u64 ((div10 (ls.drop i)).2 : Int) ∧ i ≤ k ∧ wx.heap[W1.heap.size]? = some (.cells cs 28 (0, 0)) ∧ cs.size = k ∧ cs.toList.drop i = (div10 (ls.drop i)).1.map (nv .u32) ∧ Below W1.heap.size W1 wx) (fun _ iv _ => (intOf iv + 1).toNat)
      case atStart =>
        have hl := HE.out.2.2.1
        refine ⟨k, _, rfl, ?_, Nat.le_refl _, heap_alloc_new _ _, ?_, ?_, (Below.refl _ _).alloc (Nat.le_refl _) _⟩
        · rw [List.drop_eq_nil_of_le (by omega)]; rfl
        · exact size_madeCells _ _
        · rw [List.drop_eq_nil_of_le (by rw [Array.length_toList, size_madeCells]; omega), List.drop_eq_nil_of_le (by omega)]; rfl
      case round =>
        obtain ⟨i, cs, rfl, rfl, hi, hh, hcs, hd, hb⟩ := hrel
        rcases Nat.eq_zero_or_pos i with rfl | hi0
        · obtain ⟨hrd, hsm, hl, hdec, hg, hbel⟩ := HE.out
          have e0 : ls.drop 0 = ls := List.drop_zero
          rw [e0, List.drop_zero] at hd
          rw [e0]
          have hlen := div10_len ls
          have hC10 := div10_rest ls
          have hval := div10_val ls
          have hqs := div10_small hsm
          obtain ⟨⟨qs, C⟩, hq⟩ : ∃ p, div10 ls = p := ⟨_, rfl⟩
          rw [hq] at hd hlen hC10 hval hqs ⊢
          have hd : cs.toList = qs.map (nv .u32) := hd
          have hlen : qs.length = ls.length := hlen
          have hC10 : C < 10 := hC10
          have hval : val ls = 10 * val qs + C := hval
          have hqs : small qs := hqs
          have htl : t.length ≤ 10 * n + 1 := by
            obtain ⟨h, hs, hn⟩ := H.out
            have h1 := dec_val_len hs
            rw [hdec, List.length_append, hn] at h1
            omega
          have hrq : ∀ wx, Below wr.heap.size wr wx → RdN .u32 wx wx.heap.size (some ⟨W1.heap.size, 0, none⟩) qs := by
            intro wx hbx
            have hlt := (Array.getElem?_eq_some_iff.1 hh).1
            refine .inr ⟨W1.heap.size, 0, rfl, Nat.lt_of_lt_of_le hlt hbx.size, fun j x hx => ?_⟩
            rw [cell_of_row _ _ _ _ _ _ ((hbx.block _ hlt).trans hh), ← Array.getElem?_toList, hd, List.getElem?_map, Nat.zero_add, hx]
            rfl
          have HH := Lib.hid (And.intro hdec (And.intro hg (And.intro hbel (And.intro hl (And.intro hlen (And.intro hval (And.intro hqs (And.intro hrq hb))))))))
          have HTR := Lib.hid (fun wx (hbx : Below wr.heap.size wr wx) => reftrim_any (some ⟨W1.heap.size, 0, none⟩) k k qs wx (B := wx.heap.size) (by omega) (Nat.le_refl _) (by omega) (hrq wx hbx))
          have hC : (C : Int) < 10 := by omega
          obtain ⟨d, hde⟩ : ∃ d, UInt8.ofNat (48 + C) = d := ⟨_, rfl⟩
          have HD := Lib.hid hde
          clear hrd hsm hl hdec hg hbel hlen hval hqs hrq hb hd hh hcs hq hde
          go_wp2_with fail
          rw [run_string_b _ (wr.heap.size + 1) _ 1 _ [d] ?_ rfl]
          · go_wp2_with (refine (HTR.out _ ((Below.refl _ _).alloc (Nat.le_refl _) _)).mono ?_; rintro e w' ⟨rfl, rfl⟩)
            obtain ⟨hdec, hg, hbel, hl, hlen, hval, hqs, hrq, hb⟩ := HH.out
            have hlsne : ls ≠ [] := by intro e; rw [e] at hl; simp at hl; omega
            rw [if_neg hlsne] at hdec hg
            have hturn := dec_turn (val ms) (val ls) t hdec
            have hmod : val ls % 10 = C := by omega
            have hdiv : val ls / 10 = val qs := by omega
            rw [hmod, hdiv, HD.out] at hturn
            have htz := trim_zero qs
            have hv := val_trim qs
            go_roundg (2 * val (trimL qs) + (if trimL qs = [] then 0 else 1))
            case measure =>
              rw [hv]
              by_cases h0 : trimL qs = []
              · rw [if_pos h0, htz.1 h0]; omega
              · rw [if_neg h0]
                have : val qs ≠ 0 := fun e => h0 (htz.2 e)
                omega
            case rel =>
              refine ⟨(trimL qs).length, (trimL qs).length, _, trimL qs, d :: t, rfl, cons_text d t, rfl, ?_, Nat.le_refl _, ?_, ?_, trim_small hqs, fun e => by rw [e]; rfl, ?_, rfl, ?_⟩
              · have := trim_len qs; omega
              · have := trim_len qs; omega
              · have := (hrq _ ((Below.refl wr.heap.size wr).alloc (Nat.le_refl _) (.cells #[.int .u8 (48 + (C : Int))] 5))).take (trimL qs).length
                rw [← trim_take] at this
                exact this
              · rw [hturn, hv]
                by_cases h0 : trimL qs = []
                · rw [if_pos (htz.1 h0), if_pos h0]
                · rw [if_neg (fun e => h0 (htz.2 e)), if_neg h0]
              · exact (Below.next0 hbel hb).alloc (Nat.le_trans hbel.size hb.size) _
          · refine .inr ⟨wr.heap.size, 0, rfl, by omega, fun j x hx => ?_⟩
            cases j with
            | zero =>
              have hx : some d = some x := hx
              injection hx with hx
              subst hx
              rw [cell_of_row _ _ _ _ _ _ (heap_alloc_new _ _)]
              have : d.toNat = 48 + C := by rw [← HD.out, UInt8.toNat_ofNat']; omega
              unfold bv
              rw [this]
              rfl
            | succ j => cases hx
        · obtain ⟨i, rfl⟩ : ∃ j, i = j + 1 := ⟨i - 1, by omega⟩
          obtain ⟨hrd, hsm, hl, hdec, hg, hbel⟩ := HE.out
          obtain ⟨m, hm⟩ : ∃ m, ls[i]? = some m := ⟨_, List.getElem?_eq_getElem (by omega)⟩
          have hm32 : m < 4294967296 := hsm m (List.mem_of_getElem? hm)
          obtain ⟨b, o, rfl, hbk, hcell0⟩ := hrd.at_ hm
          have hcell : wr.cell? ⟨b, o + i, none⟩ = some (.int .u32 (m : Int)) := (hb.cell (p := ⟨b, o + i, none⟩) hbk).trans hcell0
          have hC10 := div10_rest (ls.drop (i + 1))
          have hstep : div10 (ls.drop i) = (((div10 (ls.drop (i + 1))).2 * base32 + m) / 10 :: (div10 (ls.drop (i + 1))).1, ((div10 (ls.drop (i + 1))).2 * base32 + m) % 10) := by rw [drop_one ls i m hm, div10]
          have hor := or32 (div10 (ls.drop (i + 1))).2 m (by omega) hm32
          obtain ⟨cs', k1, k2, k3, k4⟩ := row_store hh hcs hd (by omega) (.int .u32 (((((div10 (ls.drop (i + 1))).2 * 4294967296 + m) / 10 : Nat) : Int))) hb (Nat.le_refl _)
          obtain ⟨x0, hx0⟩ : ∃ x0, cs[i]? = some x0 := ⟨cs[i]'(by omega), Array.getElem?_eq_getElem (by omega)⟩
          have hcq : wr.cell? ⟨W1.heap.size, i, none⟩ = some x0 := by rw [cell_of_row _ _ i _ _ _ hh]; exact hx0
          have hfr : wr.frozen? ⟨W1.heap.size, i, none⟩ = false := frozen_of_row _ _ _ _ _ hh
          obtain ⟨C, hC⟩ : ∃ C, (div10 (ls.drop (i + 1))).2 = C := ⟨_, rfl⟩
          rw [hC] at hC10 hstep hor k1 k3 k4 ⊢
          have hstep : div10 (ls.drop i) = ((C * 4294967296 + m) / 10 :: (div10 (ls.drop (i + 1))).1, (C * 4294967296 + m) % 10) := hstep
          have hT : C * 4294967296 + m < 42949672960 := by omega
          obtain ⟨T, hTe⟩ : ∃ T, C * 4294967296 + m = T := ⟨_, rfl⟩
          rw [hTe] at hstep hor k1 k3 k4 hT
          have hor : bits BinOp.or IntKind.u64 ((C : Int) * 4294967296) (m : Int) = (T : Int) := by rw [← hor]; congr 1
          have eT : ((T / 10 : Nat) : Int) = (T : Int) / 10 := by omega
          rw [eT] at k1 k3 k4
          have HS := Lib.hid (And.intro hstep (And.intro k1 (And.intro k2 (And.intro k3 k4))))
          have hi0 : (0 : Int) ≤ (i : Int) := by omega
          have hi1 : (i : Int) < (k : Int) := by omega
          have hT1 : (T : Int) / 10 < 4294967296 := by omega
          have hT2 : (0 : Int) ≤ (T : Int) / 10 := by omega
          clear hrd hsm hl hdec hg hbel hm hcell0 hstep k1 k2 k3 k4 hh hcs hd hb hx0 hC hTe eT
          go_wp2_with fail
          go_roundw
          case rel =>
            obtain ⟨g1, g2, g3, g4, g5⟩ := HS.out
            refine ⟨i, cs', rfl, ?_, by omega, g2, g3, ?_, g5⟩
            · rw [g1]
              exact congrArg (Value.int .u64) (by omega)
            · rw [g4, g1]
              exact congrArg (· :: _) (congrArg (Value.int .u32) (by omega))
          case measure => simp [intOf]
end Go.Proofs.YtifdmgloheampaaDoor
