/- The walk of the reference disk's Flip. Condition: the reference disk lies behind its pointer. -/
import Derived.Test.YtopnhplacdbkdaaRefCrash
import Derived.Test.YtopnhplacdbkdaaDiskFlip
namespace Go.Proofs.Ytopnhplacdbkdaa
open Go.RowKit DiskM

def topTo (m : Nat) : Nat → Nat
  | 0 => 0
  | k + 1 => if m / 2 ^ k % 2 = 1 then k else topTo m k
theorem topTo_log (m : Nat) (hm : m ≠ 0) (h : m < 4294967296) : topTo m 32 = Nat.log2 m := by
  have h1 : 2 ^ Nat.log2 m ≤ m := Nat.log2_self_le hm
  have h2 : m < 2 ^ (Nat.log2 m + 1) := Nat.lt_log2_self
  have h3 : Nat.log2 m < 32 := (Nat.log2_lt hm).2 (by simpa using h)
  have h4 : m / 2 ^ Nat.log2 m = 1 := by
    have h5 : 0 < 2 ^ Nat.log2 m := Nat.pow_pos (by omega)
    have h6 : m / 2 ^ Nat.log2 m < 2 := by rw [Nat.div_lt_iff_lt_mul h5]; rw [Nat.pow_succ] at h2; omega
    have h7 : 0 < m / 2 ^ Nat.log2 m := Nat.div_pos h1 h5
    omega
  have key : ∀ r, topTo m (Nat.log2 m + 1 + r) = Nat.log2 m := by
    intro r
    induction r with
    | zero => simp only [topTo]; rw [h4, if_pos rfl]
    | succ r ih =>
      rw [show Nat.log2 m + 1 + (r + 1) = (Nat.log2 m + 1 + r) + 1 by omega]
      simp only [topTo]
      have : m / 2 ^ (Nat.log2 m + 1 + r) = 0 := Nat.div_eq_of_lt (Nat.lt_of_lt_of_le h2 (Nat.pow_le_pow_right (by omega) (by omega)))
      rw [this, if_neg (by omega), ih]
  have := key (31 - Nat.log2 m)
  rwa [show Nat.log2 m + 1 + (31 - Nat.log2 m) = 32 by omega] at this
theorem topTo_le (m : Nat) : ∀ k, topTo m k ≤ k
  | 0 => Nat.le_refl _
  | k + 1 => by
    simp only [topTo]
    split
    · omega
    · have := topTo_le m k; omega
def RefFlip (w : World) (fq : Nat → Prop) (r : Nat) (res : Bool × DS) (e : Ending) (w' : World) : Prop := e = .returned (.bool res.1) ∧ (∃ fq', RefAt w' fq' r res.2 ∧ ∀ k, fq' k → fq k ∨ w.heap.size ≤ k) ∧ Turn fq w w'

set_option maxRecDepth 100000 in
set_option maxHeartbeats 4000000 in
theorem refflip_any {w : World} {fq : Nat → Prop} {r : Nat} {d : DS} (h : RefAt w fq r d) (s : ByteArray) (z : Int) (hz0 : -9223372036854775808 ≤ z) (hz1 : z ≤ 9223372036854775807) (m : Nat) (hml : m < 4294967296) :
    Calls Try.prog 93 #[.pointer (some ⟨r, 0, none⟩), .string s, .int .i64 z, .int .u32 (m : Int)] w (RefFlip w fq r (flipR d s.data.toList z m)) := by
  have h0 := h
  obtain ⟨a, n, c, L, fv, h⟩ := h
  have hnum := h.num
  have H := Lib.hid h
  have HA := Lib.hid h0
  have hno : flipOk d s.data.toList z m = false → RefFlip w fq r (flipR d s.data.toList z m) (.returned (.bool false)) w := fun hf => by
    unfold flipR
    rw [hf]
    exact ⟨rfl, ⟨fq, HA.out, fun k hk => .inl hk⟩, Turn.refl _ _⟩
  have HNO := Lib.hid hno
  clear h h0 hno
  go_enter Try.func93, Try.ntmps93
  go_wp2_with fail
  refine (refat_any H.out s).mono ?_
  rintro e w' ⟨⟨zi, rfl, hz⟩, rfl⟩
  rcases hz with ⟨i, x, rfl, hx, hk⟩ | ⟨rfl, hno⟩
  rotate_left
  · have HF := Lib.hid (HNO.out (by unfold flipOk; rw [H.out.look_no hno]; rfl))
    clear hno
    go_wp2_with fail
    go_ret
    exact HF.out
  have hlk : DiskM.look s.data.toList d.files = some x.2.abs := hk ▸ H.out.look_in hx
  have hi' : ¬ ((i : Int) < 0) := by omega
  have hil : (i : Int) < (n : Int) := by have := (List.getElem?_eq_some_iff.1 hx).1; omega
  by_cases hm : m = 0
  · have HF := Lib.hid (HNO.out (by unfold flipOk; rw [decide_eq_false (show ¬ (m ≠ 0) by omega), Bool.and_false, Bool.false_and, Bool.false_and]))
    subst hm
    clear hx hk hlk
    go_wp2_with fail
    go_ret
    exact HF.out
  have c1_ : ((m : Int) == 0) = false := by rw [beq_eq_false_iff_ne]; omega
  have c1' : ¬ ((m : Int) = 0) := by omega
  by_cases hzn : z < 0
  · have HF := Lib.hid (HNO.out (by unfold flipOk; rw [decide_eq_false (show ¬ (0 ≤ z) by omega), Bool.and_false, Bool.false_and]))
    clear hx hk hlk hm
    go_wp2_with fail
    go_ret
    exact HF.out
  have HX := Lib.hid hx
  have HK := Lib.hid hk
  have HLK := Lib.hid hlk
  have HM := Lib.hid hm
  obtain ⟨g, rfl, g0, g1, g2⟩ := H.out.at_ hx
  have hc0 : w.cell? ⟨r, 0, none⟩ = some (.slice (some ⟨g, 0, none⟩) n c) := cell_of_row _ _ 0 _ _ _ H.out.cells
  have hrows := H.out.rows x (List.mem_of_getElem? hx)
  have hxl : x.2.bs.length = x.2.n := hrows.1.1
  have hxn : x.2.n ≤ 16777216 := by
    have h1 := old_used H.out.ok x.1
    rw [old_some (H.out.look_in hx)] at h1
    have h2 := H.out.ok.used
    have h3 : x.2.bs.length ≤ used d.files := h1
    omega
  have HXL := Lib.hid hxl
  have HROWS := Lib.hid hrows
  clear hx hk hlk hm hxl hrows
  go_wp2_with fail
  go_loop [10, 11] (fun u v => ∃ k : Nat, v = .int .i64 k ∧ k ≤ 32 ∧ u = .int .i64 (topTo m k : Nat)) (fun _ v => 32 - (intOf v).toNat)
  case atStart => exact ⟨0, rfl, by omega, rfl⟩
  case round =>
    obtain ⟨k, rfl, hk, rfl⟩ := hrel
    by_cases hlt : k < 32
    · have hlt' : (k : Int) < 32 := by omega
      have hb : bits .and .u32 ((m : Int) / 2 ^ k) 1 = ((m / 2 ^ k % 2 : Nat) : Int) := by
        have e : (m : Int) / 2 ^ k = ((m / 2 ^ k : Nat) : Int) := by simp
        rw [e, show (1 : Int) = ((1 : Nat) : Int) from rfl, u32_and_nat _ 1 (by have := Nat.div_le_self m (2 ^ k); omega) (by omega), nat_mask1]
      rcases Nat.mod_two_eq_zero_or_one (m / 2 ^ k) with h2 | h2
      · have HT := Lib.hid (show topTo m (k + 1) = topTo m k by simp only [topTo]; rw [if_neg (by omega)])
        rw [h2] at hb
        clear h2
        go_wp2_with fail
        go_round
        case rel => exact ⟨k + 1, by go_num, by omega, by rw [HT.out]⟩
        case measure => simp [intOf]; omega
      · have HT := Lib.hid (show topTo m (k + 1) = k by simp only [topTo]; rw [if_pos h2])
        rw [h2] at hb
        clear h2
        go_wp2_with fail
        go_round
        case rel => exact ⟨k + 1, by go_num, by omega, by rw [HT.out]⟩
        case measure => simp [intOf]; omega
    · obtain rfl : k = 32 := by omega
      have htl := topTo_log m HM.out hml
      have hl32 : Nat.log2 m < 32 := (Nat.log2_lt HM.out).2 (by simpa using hml)
      obtain ⟨t, ht⟩ : ∃ t, topTo m 32 = t := ⟨_, rfl⟩
      rw [ht] at htl ⊢
      have HTL := Lib.hid htl
      have ht32 : t < 32 := by omega
      clear ht htl hl32
      have w1_ : IntKind.i64.wrap (8 * (x.2.n : Int)) = 8 * (x.2.n : Int) := by rw [IntKind.wrap_i64]; omega
      by_cases hout : 8 * (x.2.n : Int) - 1 - (t : Int) < z
      · have HF := Lib.hid (HNO.out (by
          unfold flipOk
          rw [old_some HLK.out, decide_eq_false (show ¬ (z.toNat + Nat.log2 m < 8 * x.2.abs.1.length) by rw [show x.2.abs.1.length = x.2.n from HXL.out, ← HTL.out]; omega), Bool.and_false]))
        go_wp2_with fail
        go_ret
        exact HF.out
      have hout' : z ≤ 8 * (x.2.n : Int) - 1 - (t : Int) := by omega
      obtain ⟨q, rfl⟩ : ∃ q : Nat, z = (q : Int) := ⟨z.toNat, by omega⟩
      have hOK := flipOk d s.data.toList q m
      have HYES := Lib.hid (show flipR d s.data.toList (q : Int) m = (true, flip d s.data.toList q m) by
        have : flipOk d s.data.toList (q : Int) m = true := by
          unfold flipOk
          rw [old_some HLK.out, HLK.out, decide_eq_true HM.out, decide_eq_true (show (0 : Int) ≤ (q : Int) by omega), decide_eq_true (show ((q : Int)).toNat + Nat.log2 m < 8 * x.2.abs.1.length by rw [show x.2.abs.1.length = x.2.n from HXL.out, ← HTL.out]; omega)]
          rfl
        unfold flipR
        rw [if_pos this]; rfl)
      have hbl : Below w.heap.size w (w.alloc (.cells #[] 5)) := (Below.refl _ _).alloc (Nat.le_refl _) _
      have hlx := Own.lit (B := w.heap.size) (bs := []) w (Nat.le_refl _) #[] rfl (by simp)
      have hrx : Rd (w.alloc (.cells #[] 5)) w.heap.size x.2.a x.2.bs := HROWS.out.1.rd.below hbl
      have HLX := Lib.hid hlx
      have HRX := Lib.hid hrx
      have hgw : g < w.heap.size := H.out.lt _ (H.out.fqa _ rfl)
      have hrw : r < w.heap.size := H.out.lt _ H.out.fqr
      clear hlx hrx hOK hout
      go_wp2_with (first
        | (at_builtin; refine wpList_append_b rfl (.tmp 54) (.tmp 62) rfl w _ w.heap.size hbl (by simp) _ 0 0 [] rfl HLX.out _ x.2.a x.2.n x.2.c x.2.bs rfl HRX.out HXL.out x.2.n (by omega) (by omega) ?_; intro a4 c4 w4 ho4 hg4 hb4 hat4; have HO4 := Lib.hid ho4; have hs4 := hb4.size; have HB4 := Lib.hid hb4; clear ho4 hg4 hat4 hb4))
      go_loopw [14] (fun v wr => ∃ j : Nat, v = .int .i64 j ∧ j ≤ t + 1 ∧ Own wr w.heap.size a4 x.2.n c4 (CrcM.turn x.2.bs q m j) ∧ Below w.heap.size w wr) (fun v _ => t + 1 - (intOf v).toNat)
      case atStart => exact ⟨0, rfl, by omega, by have := HO4.out; rw [List.nil_append] at this; exact this, HB4.out⟩
      case round =>
        obtain ⟨j, rfl, hj, hown, hbel⟩ := hrel
        by_cases hjt : j ≤ t
        · have hjt' : (j : Int) ≤ (t : Int) := by omega
          have hb : bits .and .u32 ((m : Int) / 2 ^ j) 1 = ((m / 2 ^ j % 2 : Nat) : Int) := by
            have e : (m : Int) / 2 ^ j = ((m / 2 ^ j : Nat) : Int) := by simp
            rw [e, show (1 : Int) = ((1 : Nat) : Int) from rfl, u32_and_nat _ 1 (by have := Nat.div_le_self m (2 ^ j); omega) (by omega), nat_mask1]
          rcases Nat.mod_two_eq_zero_or_one (m / 2 ^ j) with h2 | h2
          · rw [h2] at hb
            have H2 := Lib.hid h2
            clear h2
            go_wp2_with fail
            go_roundw
            case rel => exact ⟨j + 1, by go_num, by omega, by rw [CrcM.turn_no H2.out]; exact hown, hbel⟩
            case measure => simp [intOf]; omega
          · rw [h2] at hb
            obtain ⟨g', rfl, hgB, hgl⟩ := hown.at_ (by omega)
            have hi : (q + j) / 8 < x.2.n := by omega
            obtain ⟨y, hy⟩ : ∃ y, (CrcM.turn x.2.bs q m j)[(q + j) / 8]? = some y := ⟨_, List.getElem?_eq_getElem (by rw [hown.len]; exact hi)⟩
            have hcell := hown.cell hy
            have hfr := hown.frozen ((q + j) / 8)
            have ht := CrcM.turn_yes (b := x.2.bs) (k := q) (m := m) (j := j) h2 (by rw [HXL.out]; omega) hy
            have HY := Lib.hid hy
            have HT := Lib.hid ht
            have H2 := Lib.hid h2
            clear hy ht h2
            go_wp2_with fail
            obtain ⟨T, hT⟩ : ∃ T, q + j = T := ⟨_, rfl⟩
            obtain ⟨Q, hQ⟩ : ∃ Q, T / 8 = Q := ⟨_, rfl⟩
            obtain ⟨rr, hr⟩ : ∃ rr, T % 8 = rr := ⟨_, rfl⟩
            have hrl : rr < 8 := by omega
            rw [hT, hQ] at hcell hfr hi
            rw [hT, hQ, hr] at HT
            have q1 : IntKind.i64.wrap ((q : Int) + (j : Int)) = (T : Int) := by rw [IntKind.wrap_i64]; omega
            have q2 : ((T : Int)).tdiv 8 = (Q : Int) := by rw [show (8 : Int) = ((8 : Nat) : Int) from rfl, ← Int.ofNat_tdiv, hQ]
            have q2' : (T : Int) / 8 = (Q : Int) := by omega
            have q3 : IntKind.i64.wrap (Q : Int) = (Q : Int) := by rw [IntKind.wrap_i64]; omega
            have q4 : ((T : Int)).tmod 8 = (rr : Int) := by rw [show (8 : Int) = ((8 : Nat) : Int) from rfl, ← Int.ofNat_tmod, hr]
            have q4' : (T : Int) % 8 = (rr : Int) := by omega
            have q5 : IntKind.i64.wrap (rr : Int) = (rr : Int) := by rw [IntKind.wrap_i64]; omega
            have hi' : (Q : Int) < (x.2.n : Int) := by omega
            have hcd : wr.drew.cell? ⟨g', Q, none⟩ = some (.int .u8 (y.toNat : Int)) := hcell
            have hfrd : wr.drew.frozen? ⟨g', Q, none⟩ = false := hfr
            have hbeld := hbel.drew
            have hownd := hown.drew
            clear hcell hfr hbel hown
            refine wp_region_still_tail 14 (by kernel_rfl) (by kernel_rfl) ?_
            change wpStill _ _ wr.drew (fun a' => wpList _ _ _ _ a' wr.drew) _ _
            generalize wr.drew = Wd at *
            simp only [List.take_succ_cons, List.take_zero, List.drop_succ_cons, List.drop_zero]
            repeat still_step
            refine wpStill_nil ?_
            go_wp2_with fail
            go_roundw
            case rel =>
              rw [flip_pow y rr hrl]
              exact ⟨j + 1, by go_num, by omega, by rw [HT.out]; exact hownd.store _, hbeld.setCell (p := ⟨g', Q, none⟩) (by show w.heap.size ≤ g'; omega) _⟩
            case measure => simp [intOf]; omega
        · obtain rfl : j = t + 1 := by omega
          have hjt' : ¬ (((t + 1 : Nat) : Int) ≤ (t : Int)) := by omega
          have hrc : wr.cell? ⟨r, 0, none⟩ = some (.slice (some ⟨g, 0, none⟩) n c) := (hbel.cell (p := ⟨r, 0, none⟩) hrw).trans hc0
          have hgc : wr.cell? ⟨g, i * 3 + 1, none⟩ = some (.slice x.2.a x.2.n x.2.c) := (hbel.cell (p := ⟨g, i * 3 + 1, none⟩) hgw).trans g1
          have hraw := (H.out.keep (w' := wr) (fun k hk => hbel.block k (H.out.lt k hk)) hbel.size).more (fq' := fun k => fq k ∨ (w.heap.size ≤ k ∧ k < wr.heap.size)) (fun k hk => .inl hk) (fun k hk => by
            rcases hk with hk | hk
            · have := H.out.lt k hk; have := hbel.size; omega
            · exact hk.2)
          have hgf : wr.frozen? ⟨g, i * 3 + 1, none⟩ = false := by
            rcases hraw.row.form with ⟨h0, _⟩ | ⟨g', cur, e1, _, _, hh, _⟩
            · cases h0
            · injection e1 with e1; injection e1 with e1; subst e1; exact frozen_of_row _ _ _ _ _ hh
          have htl : (CrcM.turn x.2.bs q m (t + 1)).length = x.2.bs.length := CrcM.turn_length _ _ _ _
          have hset := hraw.set HX.out ⟨a4, x.2.n, c4, CrcM.turn x.2.bs q m (t + 1), x.2.sure⟩ (w2 := wr.setCell ⟨g, i * 3 + 1, none⟩ (.slice a4 x.2.n c4)) (by
              have := hraw.row.set (i * 3 + 1) (.slice a4 x.2.n c4)
              have e2 : ((refFiles fv).set (i * 3 + 1) (.slice a4 x.2.n c4))[i * 3 + 2]? = some (.int .i64 (x.2.sure : Int)) := by rw [List.getElem?_set_ne (by omega), refFiles_get fv i 2 x HX.out (by omega)]; rfl
              rw [refFiles_set _ _ _ (by omega), set_as (l := refFiles fv) (by rw [show i * 3 = i * 3 + 0 by omega, refFiles_get fv i 0 x HX.out (by omega)]; rfl), set_as e2]
              exact this) (fun k hk => Below.heap_setCell _ _ _ _ hk) (by simp [World.setCell]) hown.fil (fun ad ha => .inr (hown.blk_lt ad.block ⟨ad, ha, rfl⟩))
              (same_ok H.out.ok (HK.out ▸ HLK.out) (by show (CrcM.turn x.2.bs q m (t + 1)).length ≤ x.2.bs.length; omega) (by
                have h1 := H.out.ok.sure (x.1, x.2.abs) (by rw [H.out.files]; exact List.mem_map.2 ⟨x, List.mem_of_getElem? HX.out, rfl⟩)
                show x.2.sure ≤ (CrcM.turn x.2.bs q m (t + 1)).length
                rw [htl]; exact h1))
          have he : flip d s.data.toList q m = DiskM.setF d x.1 (CrcM.turn x.2.bs q m (t + 1), x.2.sure) := by
            unfold flip
            rw [old_some HLK.out, HK.out]
            show DiskM.setF d s.data.toList (CrcM.turn x.2.bs q m 32, x.2.sure) = _
            rw [turn_stop _ _ _ (t + 1) (by rw [HTL.out]; exact Nat.lt_log2_self) 32 (by omega)]
          have HSET := Lib.hid hset
          have HE := Lib.hid he
          have HBL := Lib.hid hbel
          have HFG := Lib.hid (H.out.fqa _ rfl)
          clear hset he hraw htl hown
          go_wp2_with fail
          go_ret
          rw [HYES.out]
          refine ⟨rfl, ⟨fun k => fq k ∨ (w.heap.size ≤ k ∧ k < wr.heap.size), ?_, fun k hk => hk.imp id fun h => h.1⟩, (Turn.of_below HBL.out _).trans0 (Turn.setCell fq _ (p := ⟨g, i * 3 + 1, none⟩) HFG.out _)⟩
          show RefAt _ _ r (flip d s.data.toList q m)
          rw [HE.out]
          exact ⟨_, _, _, _, _, HSET.out⟩
end Go.Proofs.Ytopnhplacdbkdaa
