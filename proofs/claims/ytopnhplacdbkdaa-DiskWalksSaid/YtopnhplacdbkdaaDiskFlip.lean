/- The walk of the disk's Flip, where all 32 bits lie in the file. Condition: the disk is kept; the file is there; the mask is not zero. -/
/- The walk of the disk's Flip, whatever is asked. Condition: the disk is kept. -/
import Derived.Test.YtopnhplacdbkdaaDiskKept
import Derived.BigRegion
import Derived.StillTailTactics
namespace Go.Proofs.Ytopnhplacdbkdaa
open Go.RowKit DiskM Go.Shelf

theorem flip_pow (x : UInt8) (r : Nat) (h : r < 8) : bits .xor .u8 (x.toNat : Int) ((2 : Int) ^ r % 256) = ((x ^^^ UInt8.ofNat (2 ^ r)).toNat : Int) := by
  have hp : 2 ^ r < 256 := by
    have h2 : 2 ^ r ≤ 2 ^ 7 := Nat.pow_le_pow_right (by omega) (by omega)
    omega
  have e : (2 : Int) ^ r % 256 = ((2 ^ r : Nat) : Int) := by
    have key : ∀ q : Nat, q < 256 → ((q : Nat) : Int) % 256 = (q : Int) := fun q hq => by omega
    rw [show (2 : Int) ^ r = ((2 ^ r : Nat) : Int) by simp]
    exact key _ hp
  rw [e, u8_xor_nat _ _ (CrcM.u8_lt x) hp, UInt8.toNat_xor, UInt8.toNat_ofNat_of_lt' hp]
def flip (d : DS) (k : Nm) (at_ m : Nat) : DS := DiskM.setF d k (CrcM.turn (DiskM.old d k).1 at_ m 32, (DiskM.old d k).2)
set_option maxRecDepth 100000 in
set_option maxHeartbeats 4000000 in
theorem flip_any {w : World} {fp : Nat → Prop} {p : Nat} {d : DS} (h : DiskAt w fp p d) (s : ByteArray) (hso : (DiskM.look s.data.toList d.files).isSome = true) (at_ m : Nat) (h32 : at_ + 32 ≤ 8 * (DiskM.old d s.data.toList).1.length) (hm0 : m ≠ 0) (hml : m < 4294967296) :
    Calls Try.prog 58 #[.pointer (some ⟨p, 0, none⟩), .string s, .int .i64 (at_ : Int), .int .u32 (m : Int)] w fun e w' => e = .returned (.bool true) ∧ ∃ fp', DiskAt w' fp' p (flip d s.data.toList at_ m) ∧ (∀ k, fp' k → fp k ∨ w.heap.size ≤ k) ∧ Turn fp w w' := by
  have hs : s.size ≤ 16 := by have := name_le h.ok hso; simpa using this
  obtain ⟨mb, fv, h⟩ := h
  have hcm := h.cell.1
  have hlk := h.look_ok s (by unfold maxLen; omega)
  rw [hso] at hlk
  have hus := old_used h.ok s.data.toList
  have hu2 := h.ok.used
  have hfil := h.fil s.data.toList
  have hold := h.old s.data.toList
  obtain ⟨f, hfe⟩ : ∃ f, getF fv s.data.toList = f := ⟨_, rfl⟩
  rw [hfe] at hlk hfil hold
  rw [hold] at hus h32
  have hfl : f.bs.length = f.n := hfil.1
  have hfn : f.n ≤ 16777216 := by have : f.bs.length ≤ used d.files := hus; omega
  have h32' : at_ + 32 ≤ 8 * f.n := by have : at_ + 32 ≤ 8 * f.bs.length := h32; omega
  have HFIL := Lib.hid hfil
  have HRAW := Lib.hid h
  have HOLD := Lib.hid hold
  have HFE := Lib.hid hfe
  have HSO := Lib.hid hso
  have HFL := Lib.hid hfl
  clear hfil h hold hfe hso hus hu2 h32 hfl
  have w1_ : IntKind.i64.wrap (8 * (f.n : Int)) = 8 * (f.n : Int) := by rw [IntKind.wrap_i64]; omega
  have w2_ : IntKind.i64.wrap (8 * (f.n : Int) - at_) = 8 * (f.n : Int) - at_ := by rw [IntKind.wrap_i64]; omega
  have c1_ : ((m : Int) == 0) = false := by rw [beq_eq_false_iff_ne]; omega
  have c1' : ¬ ((m : Int) = 0) := by omega
  have c2_ : ¬ ((at_ : Int) < 0) := by omega
  have c3_ : ¬ (8 * (f.n : Int) ≤ at_) := by omega
  have c3' : ((at_ : Int) < 8 * (f.n : Int)) := by omega
  have c4_ : ¬ (8 * (f.n : Int) - at_ < 32) := by omega
  have hb1 : Below w.heap.size w (w.alloc (.cells #[.slice f.a f.n f.c, .int .i64 (f.sure : Int)] 102)) := (Below.refl _ _).alloc (Nat.le_refl _) _
  have hc10 : (w.alloc (.cells #[.slice f.a f.n f.c, .int .i64 (f.sure : Int)] 102)).heap[w.heap.size]? = some (.cells #[.slice f.a f.n f.c, .int .i64 (f.sure : Int)] 102 (0, 0)) := heap_alloc_new _ _
  have g0 : (w.alloc (.cells #[.slice f.a f.n f.c, .int .i64 (f.sure : Int)] 102)).cell? ⟨w.heap.size, 0, none⟩ = some (.slice f.a f.n f.c) := cell_of_row _ _ 0 _ _ _ hc10
  have hfil1 : Fil (w.alloc (.cells #[.slice f.a f.n f.c, .int .i64 (f.sure : Int)] 102)) f.a f.n f.c f.bs := HFIL.out.keep fun ad ha => hb1.block _ (HFIL.out.lt ad ha)
  have HFIL1 := Lib.hid hfil1
  clear hfil1
  go_enter Try.func58, Try.ntmps58
  go_wp2_with fail
  refine (clone_any f.a f.n f.c f.bs _ HFIL1.out.1 (by omega) HFIL1.out.rd).mono ?_
  rintro e w2 ⟨a2, cp, rfl, ho2, hb2⟩
  have hB2 := Below.next0 hb1 hb2
  have hb20 : w2.heap[w.heap.size]? = some (.cells #[.slice f.a f.n f.c, .int .i64 (f.sure : Int)] 102 (0, 0)) := (hb2.block _ (by simp)).trans hc10
  have k0 : w2.cell? ⟨w.heap.size, 0, none⟩ = some (.slice f.a f.n f.c) := cell_of_row _ _ 0 _ _ _ hb20
  have k1 : w2.frozen? ⟨w.heap.size, 0, none⟩ = false := frozen_of_row _ _ 0 _ _ hb20
  have ho2' : Own w2 (w.heap.size + 1) a2 f.n cp f.bs := by have := ho2; rwa [World.size_alloc] at this
  obtain ⟨W3, hW3⟩ : ∃ W3, W3 = w2.setCell ⟨w.heap.size, 0, none⟩ (.slice a2 f.n cp) := ⟨_, rfl⟩
  have hb30 : W3.heap[w.heap.size]? = some (.cells #[.slice a2 f.n cp, .int .i64 (f.sure : Int)] 102 (0, 0)) := by
    rw [hW3]
    have := heap_setCell_same w2 w.heap.size 0 _ _ (.slice a2 f.n cp) hb20
    exact this
  have ho3 : Own W3 (w.heap.size + 1) a2 f.n cp f.bs := by
    rw [hW3]
    refine ho2'.far (fun x hx => ?_) _
    rcases ho2'.form with ⟨h0, _⟩ | ⟨g, cur, e1, h1, _⟩
    · rw [h0] at hx; cases hx
    · rw [e1] at hx; injection hx with hx; subst hx; show g ≠ w.heap.size; omega
  have hB3 : Below w.heap.size w W3 := by rw [hW3]; exact hB2.setCell (p := ⟨w.heap.size, 0, none⟩) (Nat.le_refl _) _
  have hmin : min (32 : Int) (8 * (f.n : Int) - at_) = 32 := by omega
  have HO3 := Lib.hid ho3
  have HB3 := Lib.hid hB3
  have HB30 := Lib.hid hb30
  clear hb1 hb2 hB2 ho2 ho2' hc10 g0 HFIL1 hb20 ho3 hB3 hb30 hlk
  go_wp2_with fail
  rw [← hW3]
  clear hW3 k0 k1
  go_loopw [63] (fun v wr => ∃ j : Nat, v = .int .i64 j ∧ j ≤ 32 ∧ wr.heap[w.heap.size]? = some (.cells #[.slice a2 f.n cp, .int .i64 (f.sure : Int)] 102 (0, 0)) ∧ Own wr (w.heap.size + 1) a2 f.n cp (CrcM.turn f.bs at_ m j) ∧ Below w.heap.size w wr) (fun v _ => 32 - (intOf v).toNat)
  case atStart => exact ⟨0, rfl, by omega, HB30.out, HO3.out, HB3.out⟩
  case round =>
    obtain ⟨j, rfl, hj, hbox, hown, hbel⟩ := hrel
    have hbx0 : wr.cell? ⟨w.heap.size, 0, none⟩ = some (.slice a2 f.n cp) := cell_of_row _ _ 0 _ _ _ hbox
    by_cases hlt : j < 32
    · have hb : bits .and .u32 ((m : Int) / 2 ^ j) 1 = ((m / 2 ^ j % 2 : Nat) : Int) := by
        have e : (m : Int) / 2 ^ j = ((m / 2 ^ j : Nat) : Int) := by simp
        rw [e, show (1 : Int) = ((1 : Nat) : Int) from rfl, u32_and_nat _ 1 (by have := Nat.div_le_self m (2 ^ j); omega) (by omega), nat_mask1]
      rcases Nat.mod_two_eq_zero_or_one (m / 2 ^ j) with h2 | h2
      · rw [h2] at hb
        have H2 := Lib.hid h2
        have HBOX := Lib.hid hbox
        clear h2 hbox
        go_wp2_with fail
        go_roundw
        case rel => exact ⟨j + 1, by go_num, by omega, HBOX.out, by rw [CrcM.turn_no H2.out]; exact hown, hbel⟩
        case measure => simp [intOf]; omega
      · rw [h2] at hb
        obtain ⟨g, rfl, hgB, hgl⟩ := hown.at_ (by omega)
        have hi : (at_ + j) / 8 < f.n := by omega
        obtain ⟨x, hx⟩ : ∃ x, (CrcM.turn f.bs at_ m j)[(at_ + j) / 8]? = some x := ⟨_, List.getElem?_eq_getElem (by rw [hown.len]; exact hi)⟩
        have hcell := hown.cell hx
        have hfr := hown.frozen ((at_ + j) / 8)
        have ht := CrcM.turn_yes (b := f.bs) (k := at_) (m := m) (j := j) h2 (by rw [HFL.out]; omega) hx
        have HX := Lib.hid hx
        have HT := Lib.hid ht
        have H2 := Lib.hid h2
        have HBOX := Lib.hid hbox
        clear hx ht h2 hbox
        go_wp2_with fail
        obtain ⟨T, hT⟩ : ∃ T, at_ + j = T := ⟨_, rfl⟩
        obtain ⟨q, hq⟩ : ∃ q, T / 8 = q := ⟨_, rfl⟩
        obtain ⟨r, hr⟩ : ∃ r, T % 8 = r := ⟨_, rfl⟩
        have hrl : r < 8 := by omega
        rw [hT, hq] at hcell hfr hi
        rw [hT, hq, hr] at HT
        have q1 : IntKind.i64.wrap ((at_ : Int) + (j : Int)) = (T : Int) := by rw [IntKind.wrap_i64]; omega
        have q2 : ((T : Int)).tdiv 8 = (q : Int) := by rw [show (8 : Int) = ((8 : Nat) : Int) from rfl, ← Int.ofNat_tdiv, hq]
        have q2' : (T : Int) / 8 = (q : Int) := by omega
        have q3 : IntKind.i64.wrap (q : Int) = (q : Int) := by rw [IntKind.wrap_i64]; omega
        have q4 : ((T : Int)).tmod 8 = (r : Int) := by rw [show (8 : Int) = ((8 : Nat) : Int) from rfl, ← Int.ofNat_tmod, hr]
        have q4' : (T : Int) % 8 = (r : Int) := by omega
        have q5 : IntKind.i64.wrap (r : Int) = (r : Int) := by rw [IntKind.wrap_i64]; omega
        have hi' : (q : Int) < (f.n : Int) := by omega
        have hcd : wr.drew.cell? ⟨g, q, none⟩ = some (.int .u8 (x.toNat : Int)) := hcell
        have hbxd : wr.drew.cell? ⟨w.heap.size, 0, none⟩ = some (.slice (some ⟨g, 0, none⟩) f.n cp) := hbx0
        have hfrd : wr.drew.frozen? ⟨g, q, none⟩ = false := hfr
        have hbeld := hbel.drew
        have hownd := hown.drew
        have HBOXd := Lib.hid (show wr.drew.heap[w.heap.size]? = _ from HBOX.out)
        clear hcell hbx0 hfr hbel hown HBOX
        refine wp_region_still_tail 15 (by kernel_rfl) (by kernel_rfl) ?_
        change wpStill _ _ wr.drew (fun a' => wpList _ _ _ _ a' wr.drew) _ _
        generalize wr.drew = Wd at *
        simp only [List.take_succ_cons, List.take_zero, List.drop_succ_cons, List.drop_zero]
        repeat still_step
        refine wpStill_nil ?_
        go_wp2_with fail
        go_roundw
        case rel =>
          rw [flip_pow x r hrl]
          exact ⟨j + 1, by go_num, by omega, (Below.heap_setCell _ _ _ _ (by show w.heap.size ≠ g; omega)).trans HBOXd.out, by rw [HT.out]; exact hownd.store _, hbeld.setCell (p := ⟨g, q, none⟩) (by show w.heap.size ≤ g; omega) _⟩
        case measure => simp [intOf]; omega
    · obtain rfl : j = 32 := by omega
      go_wp2_with fail
      have hap : ∀ x ∈ fv, x.1 ≠ s.data.toList → ∀ ax ad, x.2.a = some ax → a2 = some ad → ax.block ≠ ad.block := by
        intro x hx _ ax ad hax had
        have h1 := HRAW.out.lt _ ((HRAW.out.rows x hx).2 ax hax)
        rcases hown.form with ⟨h0, _⟩ | ⟨g, cur, e1, h2, _⟩
        · rw [h0] at had; cases had
        · rw [e1] at had; injection had with had; subst had; show ax.block ≠ g; omega
      have hlen : (CrcM.turn f.bs at_ m 32).length = f.bs.length := CrcM.turn_length _ _ _ _
      obtain ⟨w4, hrun4, hd4, hg4⟩ := DiskBut.store ((HRAW.out.below hbel).drewN 1 |>.but s.data.toList) s rfl hs ⟨a2, f.n, cp, CrcM.turn f.bs at_ m 32, f.sure⟩ (hown.fil) hap
        (by show f.sure ≤ (CrcM.turn f.bs at_ m 32).length; have h1 := old_le HRAW.out.ok s.data.toList; rw [HOLD.out] at h1; rw [hlen]; exact h1) (by rw [HOLD.out]; have := HRAW.out.ok.used; show (CrcM.turn f.bs at_ m 32).length + used d.files ≤ 16777216 + f.bs.length; omega)
        (by rw [put_length_some HRAW.out.ok.rising.apart HSO.out]; exact HRAW.out.ok.few)
      have hrun4' : (Instr.mapUpdate 97 (.map (some mb)) (.string s) (.agg #[.slice a2 f.n cp, .int .i64 (f.sure : Nat)])).run Try.prog wr.drew = .ok () w4 := hrun4
      have hc4a : wr.drew.cell? ⟨w.heap.size, 0, none⟩ = some (.slice a2 f.n cp) := cell_of_row wr w.heap.size 0 _ _ _ hbox
      have hc4b : wr.drew.cell? ⟨w.heap.size, 1, none⟩ = some (.int .i64 (f.sure : Nat)) := cell_of_row wr w.heap.size 1 _ _ _ hbox
      have hcmd : wr.drew.cell? ⟨p, 0, none⟩ = some (.map (some mb)) := (hbel.cell (p := ⟨p, 0, none⟩) (block_lt_of_cell hcm)).trans hcm
      have HT : Hid (Turn fp w w4) := Lib.hid ((Turn.of_below hbel.drew fp).trans0 (Turn.of_grown hg4 (fun r hr hl => by injection hr with hr; rw [← hr]; exact HRAW.out.fpm)))
      have HD4 := Lib.hid hd4
      have HOWN := Lib.hid hown
      clear hap hrun4 hd4 hg4 hown hbox hbx0 hbel hcm
      refine wp_region_still_tail 6 (by kernel_rfl) (by kernel_rfl) ?_
      change wpStill _ _ wr.drew (fun a' => wpList _ _ _ _ a' wr.drew) _ _
      generalize wr.drew = Wd at *
      simp only [List.take_succ_cons, List.take_zero, List.drop_succ_cons, List.drop_zero]
      repeat still_step
      refine wpStill_nil ?_
      go_wp2_with fail
      go_ret
      have e : flip d s.data.toList at_ m = DiskM.setF d s.data.toList (FileV.abs ⟨a2, f.n, cp, CrcM.turn f.bs at_ m 32, f.sure⟩) := by unfold flip; rw [HOLD.out]; rfl
      refine ⟨rfl, _, ⟨mb, _, by rw [e]; exact HD4.out⟩, ?_, HT.out⟩
      rintro k (hk | ⟨ad, ha, rfl⟩)
      · exact .inl hk
      · have := (HOWN.out.apart (fp := fun k => k < w.heap.size + 1) (fun _ h => h) ad ha)
        exact .inr (by omega)
end Go.Proofs.Ytopnhplacdbkdaa
namespace Go.Proofs.Ytopnhplacdbkdaa
open Go.RowKit DiskM Go.Shelf

def flipOk (d : DS) (k : Nm) (z : Int) (m : Nat) : Bool := (DiskM.look k d.files).isSome && decide (m ≠ 0) && decide (0 ≤ z) && decide (z.toNat + Nat.log2 m < 8 * (DiskM.old d k).1.length)
def flipR (d : DS) (k : Nm) (z : Int) (m : Nat) : Bool × DS := if flipOk d k z m then (true, flip d k z.toNat m) else (false, d)
theorem turn_stop (b : List UInt8) (k m j : Nat) (h : m < 2 ^ j) (i : Nat) (hi : j ≤ i) : CrcM.turn b k m i = CrcM.turn b k m j := by
  obtain ⟨r, rfl⟩ : ∃ r, i = j + r := ⟨i - j, by omega⟩
  clear hi
  induction r with
  | zero => rfl
  | succ r ih =>
    rw [show j + (r + 1) = j + r + 1 by omega, CrcM.turn_no ?_, ih]
    have : m / 2 ^ (j + r) = 0 := Nat.div_eq_of_lt (Nat.lt_of_lt_of_le h (Nat.pow_le_pow_right (by omega) (by omega)))
    rw [this]

set_option maxRecDepth 100000 in
set_option maxHeartbeats 4000000 in
theorem flip_gen {w : World} {fp : Nat → Prop} {p : Nat} {d : DS} (h : DiskAt w fp p d) (s : ByteArray) (hso : (DiskM.look s.data.toList d.files).isSome = true) (at_ m : Nat) (R : Nat) (h32 : at_ + R = 8 * (DiskM.old d s.data.toList).1.length) (hR0 : 0 < R) (hmR : m < 2 ^ R) (hm0 : m ≠ 0) (hml : m < 4294967296) :
    Calls Try.prog 58 #[.pointer (some ⟨p, 0, none⟩), .string s, .int .i64 (at_ : Int), .int .u32 (m : Int)] w fun e w' => e = .returned (.bool true) ∧ ∃ fp', DiskAt w' fp' p (flip d s.data.toList at_ m) ∧ (∀ k, fp' k → fp k ∨ w.heap.size ≤ k) ∧ Turn fp w w' := by
  have hs : s.size ≤ 16 := by have := name_le h.ok hso; simpa using this
  obtain ⟨mb, fv, h⟩ := h
  have hcm := h.cell.1
  have hlk := h.look_ok s (by unfold maxLen; omega)
  rw [hso] at hlk
  have hus := old_used h.ok s.data.toList
  have hu2 := h.ok.used
  have hfil := h.fil s.data.toList
  have hold := h.old s.data.toList
  obtain ⟨f, hfe⟩ : ∃ f, getF fv s.data.toList = f := ⟨_, rfl⟩
  rw [hfe] at hlk hfil hold
  rw [hold] at hus h32
  have hfl : f.bs.length = f.n := hfil.1
  have hfn : f.n ≤ 16777216 := by have : f.bs.length ≤ used d.files := hus; omega
  have h32' : at_ + R = 8 * f.n := by have : at_ + R = 8 * f.bs.length := h32; omega
  have HFIL := Lib.hid hfil
  have HRAW := Lib.hid h
  have HOLD := Lib.hid hold
  have HFE := Lib.hid hfe
  have HSO := Lib.hid hso
  have HFL := Lib.hid hfl
  clear hfil h hold hfe hso hus hu2 h32 hfl
  have w1_ : IntKind.i64.wrap (8 * (f.n : Int)) = 8 * (f.n : Int) := by rw [IntKind.wrap_i64]; omega
  have w2_ : 8 * (f.n : Int) - (at_ : Int) = (R : Int) := by omega
  have c1_ : ((m : Int) == 0) = false := by rw [beq_eq_false_iff_ne]; omega
  have c1' : ¬ ((m : Int) = 0) := by omega
  have c2_ : ¬ ((at_ : Int) < 0) := by omega
  have c3_ : ¬ (8 * (f.n : Int) ≤ at_) := by omega
  have c3' : ((at_ : Int) < 8 * (f.n : Int)) := by omega
  have c6_ : ((m : Int) / 2 ^ R) = 0 := by
    have : m / 2 ^ R = 0 := Nat.div_eq_of_lt hmR
    have e : (m : Int) / 2 ^ R = ((m / 2 ^ R : Nat) : Int) := by simp
    rw [e, this]; rfl
  obtain ⟨J, hJ⟩ : ∃ J, J = min 32 R := ⟨_, rfl⟩
  have hmJ : m < 2 ^ J := by
    rw [hJ]
    rcases Nat.le_total 32 R with h | h
    · rw [Nat.min_eq_left h]; simpa using hml
    · rw [Nat.min_eq_right h]; exact hmR
  have hJ32 : J ≤ 32 := by omega
  have hJn : at_ + J ≤ 8 * f.n := by omega
  have HMJ := Lib.hid hmJ
  have hmin : min (32 : Int) (R : Int) = (J : Int) := by omega
  have HJ := Lib.hid hJ
  have HH := Lib.hid h32'
  clear hmJ hJ hmR h32'
  have hb1 : Below w.heap.size w (w.alloc (.cells #[.slice f.a f.n f.c, .int .i64 (f.sure : Int)] 102)) := (Below.refl _ _).alloc (Nat.le_refl _) _
  have hc10 : (w.alloc (.cells #[.slice f.a f.n f.c, .int .i64 (f.sure : Int)] 102)).heap[w.heap.size]? = some (.cells #[.slice f.a f.n f.c, .int .i64 (f.sure : Int)] 102 (0, 0)) := heap_alloc_new _ _
  have g0 : (w.alloc (.cells #[.slice f.a f.n f.c, .int .i64 (f.sure : Int)] 102)).cell? ⟨w.heap.size, 0, none⟩ = some (.slice f.a f.n f.c) := cell_of_row _ _ 0 _ _ _ hc10
  have hfil1 : Fil (w.alloc (.cells #[.slice f.a f.n f.c, .int .i64 (f.sure : Int)] 102)) f.a f.n f.c f.bs := HFIL.out.keep fun ad ha => hb1.block _ (HFIL.out.lt ad ha)
  have HFIL1 := Lib.hid hfil1
  clear hfil1
  by_cases c4_ : (R : Int) < 32
  all_goals
    go_enter Try.func58, Try.ntmps58
    go_wp2_with fail
    refine (clone_any f.a f.n f.c f.bs _ HFIL1.out.1 (by omega) HFIL1.out.rd).mono ?_
    rintro e w2 ⟨a2, cp, rfl, ho2, hb2⟩
    have hB2 := Below.next0 hb1 hb2
    have hb20 : w2.heap[w.heap.size]? = some (.cells #[.slice f.a f.n f.c, .int .i64 (f.sure : Int)] 102 (0, 0)) := (hb2.block _ (by simp)).trans hc10
    have k0 : w2.cell? ⟨w.heap.size, 0, none⟩ = some (.slice f.a f.n f.c) := cell_of_row _ _ 0 _ _ _ hb20
    have k1 : w2.frozen? ⟨w.heap.size, 0, none⟩ = false := frozen_of_row _ _ 0 _ _ hb20
    have ho2' : Own w2 (w.heap.size + 1) a2 f.n cp f.bs := by have := ho2; rwa [World.size_alloc] at this
    obtain ⟨W3, hW3⟩ : ∃ W3, W3 = w2.setCell ⟨w.heap.size, 0, none⟩ (.slice a2 f.n cp) := ⟨_, rfl⟩
    have hb30 : W3.heap[w.heap.size]? = some (.cells #[.slice a2 f.n cp, .int .i64 (f.sure : Int)] 102 (0, 0)) := by
      rw [hW3]
      have := heap_setCell_same w2 w.heap.size 0 _ _ (.slice a2 f.n cp) hb20
      exact this
    have ho3 : Own W3 (w.heap.size + 1) a2 f.n cp f.bs := by
      rw [hW3]
      refine ho2'.far (fun x hx => ?_) _
      rcases ho2'.form with ⟨h0, _⟩ | ⟨g, cur, e1, h1, _⟩
      · rw [h0] at hx; cases hx
      · rw [e1] at hx; injection hx with hx; subst hx; show g ≠ w.heap.size; omega
    have hB3 : Below w.heap.size w W3 := by rw [hW3]; exact hB2.setCell (p := ⟨w.heap.size, 0, none⟩) (Nat.le_refl _) _
    have HO3 := Lib.hid ho3
    have HB3 := Lib.hid hB3
    have HB30 := Lib.hid hb30
    clear hb1 hb2 hB2 ho2 ho2' hc10 g0 HFIL1 hb20 ho3 hB3 hb30 hlk
    go_wp2_with fail
    rw [← hW3]
    clear hW3 k0 k1
    go_loopw [63] (fun v wr => ∃ j : Nat, v = .int .i64 j ∧ j ≤ J ∧ wr.heap[w.heap.size]? = some (.cells #[.slice a2 f.n cp, .int .i64 (f.sure : Int)] 102 (0, 0)) ∧ Own wr (w.heap.size + 1) a2 f.n cp (CrcM.turn f.bs at_ m j) ∧ Below w.heap.size w wr) (fun v _ => J - (intOf v).toNat)
    case atStart => exact ⟨0, rfl, by omega, HB30.out, HO3.out, HB3.out⟩
    case round =>
      obtain ⟨j, rfl, hj, hbox, hown, hbel⟩ := hrel
      have hbx0 : wr.cell? ⟨w.heap.size, 0, none⟩ = some (.slice a2 f.n cp) := cell_of_row _ _ 0 _ _ _ hbox
      by_cases hlt : j < J
      · have hb : bits .and .u32 ((m : Int) / 2 ^ j) 1 = ((m / 2 ^ j % 2 : Nat) : Int) := by
          have e : (m : Int) / 2 ^ j = ((m / 2 ^ j : Nat) : Int) := by simp
          rw [e, show (1 : Int) = ((1 : Nat) : Int) from rfl, u32_and_nat _ 1 (by have := Nat.div_le_self m (2 ^ j); omega) (by omega), nat_mask1]
        rcases Nat.mod_two_eq_zero_or_one (m / 2 ^ j) with h2 | h2
        · rw [h2] at hb
          have H2 := Lib.hid h2
          have HBOX := Lib.hid hbox
          clear h2 hbox
          go_wp2_with fail
          go_roundw
          case rel => exact ⟨j + 1, by go_num, by omega, HBOX.out, by rw [CrcM.turn_no H2.out]; exact hown, hbel⟩
          case measure => simp [intOf]; omega
        · rw [h2] at hb
          obtain ⟨g, rfl, hgB, hgl⟩ := hown.at_ (by omega)
          have hi : (at_ + j) / 8 < f.n := by omega
          obtain ⟨x, hx⟩ : ∃ x, (CrcM.turn f.bs at_ m j)[(at_ + j) / 8]? = some x := ⟨_, List.getElem?_eq_getElem (by rw [hown.len]; exact hi)⟩
          have hcell := hown.cell hx
          have hfr := hown.frozen ((at_ + j) / 8)
          have ht := CrcM.turn_yes (b := f.bs) (k := at_) (m := m) (j := j) h2 (by rw [HFL.out]; omega) hx
          have HX := Lib.hid hx
          have HT := Lib.hid ht
          have H2 := Lib.hid h2
          have HBOX := Lib.hid hbox
          clear hx ht h2 hbox
          go_wp2_with fail
          obtain ⟨T, hT⟩ : ∃ T, at_ + j = T := ⟨_, rfl⟩
          obtain ⟨q, hq⟩ : ∃ q, T / 8 = q := ⟨_, rfl⟩
          obtain ⟨r, hr⟩ : ∃ r, T % 8 = r := ⟨_, rfl⟩
          have hrl : r < 8 := by omega
          rw [hT, hq] at hcell hfr hi
          rw [hT, hq, hr] at HT
          have q1 : IntKind.i64.wrap ((at_ : Int) + (j : Int)) = (T : Int) := by rw [IntKind.wrap_i64]; omega
          have q2 : ((T : Int)).tdiv 8 = (q : Int) := by rw [show (8 : Int) = ((8 : Nat) : Int) from rfl, ← Int.ofNat_tdiv, hq]
          have q2' : (T : Int) / 8 = (q : Int) := by omega
          have q3 : IntKind.i64.wrap (q : Int) = (q : Int) := by rw [IntKind.wrap_i64]; omega
          have q4 : ((T : Int)).tmod 8 = (r : Int) := by rw [show (8 : Int) = ((8 : Nat) : Int) from rfl, ← Int.ofNat_tmod, hr]
          have q4' : (T : Int) % 8 = (r : Int) := by omega
          have q5 : IntKind.i64.wrap (r : Int) = (r : Int) := by rw [IntKind.wrap_i64]; omega
          have hi' : (q : Int) < (f.n : Int) := by omega
          have hcd : wr.drew.cell? ⟨g, q, none⟩ = some (.int .u8 (x.toNat : Int)) := hcell
          have hbxd : wr.drew.cell? ⟨w.heap.size, 0, none⟩ = some (.slice (some ⟨g, 0, none⟩) f.n cp) := hbx0
          have hfrd : wr.drew.frozen? ⟨g, q, none⟩ = false := hfr
          have hbeld := hbel.drew
          have hownd := hown.drew
          have HBOXd := Lib.hid (show wr.drew.heap[w.heap.size]? = _ from HBOX.out)
          clear hcell hbx0 hfr hbel hown HBOX
          refine wp_region_still_tail 15 (by kernel_rfl) (by kernel_rfl) ?_
          change wpStill _ _ wr.drew (fun a' => wpList _ _ _ _ a' wr.drew) _ _
          generalize wr.drew = Wd at *
          simp only [List.take_succ_cons, List.take_zero, List.drop_succ_cons, List.drop_zero]
          repeat still_step
          refine wpStill_nil ?_
          go_wp2_with fail
          go_roundw
          case rel =>
            rw [flip_pow x r hrl]
            exact ⟨j + 1, by go_num, by omega, (Below.heap_setCell _ _ _ _ (by show w.heap.size ≠ g; omega)).trans HBOXd.out, by rw [HT.out]; exact hownd.store _, hbeld.setCell (p := ⟨g, q, none⟩) (by show w.heap.size ≤ g; omega) _⟩
          case measure => simp [intOf]; omega
      · obtain rfl : J = j := by omega
        go_wp2_with fail
        have hap : ∀ x ∈ fv, x.1 ≠ s.data.toList → ∀ ax ad, x.2.a = some ax → a2 = some ad → ax.block ≠ ad.block := by
          intro x hx _ ax ad hax had
          have h1 := HRAW.out.lt _ ((HRAW.out.rows x hx).2 ax hax)
          rcases hown.form with ⟨h0, _⟩ | ⟨g, cur, e1, h2, _⟩
          · rw [h0] at had; cases had
          · rw [e1] at had; injection had with had; subst had; show ax.block ≠ g; omega
        have hlen : (CrcM.turn f.bs at_ m J).length = f.bs.length := CrcM.turn_length _ _ _ _
        obtain ⟨w4, hrun4, hd4, hg4⟩ := DiskBut.store ((HRAW.out.below hbel).drewN 1 |>.but s.data.toList) s rfl hs ⟨a2, f.n, cp, CrcM.turn f.bs at_ m J, f.sure⟩ (hown.fil) hap
          (by show f.sure ≤ (CrcM.turn f.bs at_ m J).length; have h1 := old_le HRAW.out.ok s.data.toList; rw [HOLD.out] at h1; rw [hlen]; exact h1) (by rw [HOLD.out]; have := HRAW.out.ok.used; show (CrcM.turn f.bs at_ m J).length + used d.files ≤ 16777216 + f.bs.length; omega)
          (by rw [put_length_some HRAW.out.ok.rising.apart HSO.out]; exact HRAW.out.ok.few)
        have hrun4' : (Instr.mapUpdate 97 (.map (some mb)) (.string s) (.agg #[.slice a2 f.n cp, .int .i64 (f.sure : Nat)])).run Try.prog wr.drew = .ok () w4 := hrun4
        have hc4a : wr.drew.cell? ⟨w.heap.size, 0, none⟩ = some (.slice a2 f.n cp) := cell_of_row wr w.heap.size 0 _ _ _ hbox
        have hc4b : wr.drew.cell? ⟨w.heap.size, 1, none⟩ = some (.int .i64 (f.sure : Nat)) := cell_of_row wr w.heap.size 1 _ _ _ hbox
        have hcmd : wr.drew.cell? ⟨p, 0, none⟩ = some (.map (some mb)) := (hbel.cell (p := ⟨p, 0, none⟩) (block_lt_of_cell hcm)).trans hcm
        have HT : Hid (Turn fp w w4) := Lib.hid ((Turn.of_below hbel.drew fp).trans0 (Turn.of_grown hg4 (fun r hr hl => by injection hr with hr; rw [← hr]; exact HRAW.out.fpm)))
        have HD4 := Lib.hid hd4
        have HOWN := Lib.hid hown
        clear hap hrun4 hd4 hg4 hown hbox hbx0 hbel hcm
        refine wp_region_still_tail 6 (by kernel_rfl) (by kernel_rfl) ?_
        change wpStill _ _ wr.drew (fun a' => wpList _ _ _ _ a' wr.drew) _ _
        generalize wr.drew = Wd at *
        simp only [List.take_succ_cons, List.take_zero, List.drop_succ_cons, List.drop_zero]
        repeat still_step
        refine wpStill_nil ?_
        go_wp2_with fail
        go_ret
        have e : flip d s.data.toList at_ m = DiskM.setF d s.data.toList (FileV.abs ⟨a2, f.n, cp, CrcM.turn f.bs at_ m J, f.sure⟩) := by unfold flip; rw [HOLD.out, turn_stop _ _ _ J HMJ.out 32 hJ32]; rfl
        refine ⟨rfl, _, ⟨mb, _, by rw [e]; exact HD4.out⟩, ?_, HT.out⟩
        rintro k (hk | ⟨ad, ha, rfl⟩)
        · exact .inl hk
        · have := (HOWN.out.apart (fp := fun k => k < w.heap.size + 1) (fun _ h => h) ad ha)
          exact .inr (by omega)

set_option maxRecDepth 100000 in
set_option maxHeartbeats 4000000 in
theorem flip_all {w : World} {fp : Nat → Prop} {p : Nat} {d : DS} (h : DiskAt w fp p d) (s : ByteArray) (hs : s.size ≤ maxLen) (z : Int) (hz0 : -9223372036854775808 ≤ z) (hz1 : z ≤ 9223372036854775807) (m : Nat) (hml : m < 4294967296) :
    Calls Try.prog 58 #[.pointer (some ⟨p, 0, none⟩), .string s, .int .i64 z, .int .u32 (m : Int)] w fun e w' => e = .returned (.bool (flipR d s.data.toList z m).1) ∧ ∃ fp', DiskAt w' fp' p (flipR d s.data.toList z m).2 ∧ (∀ k, fp' k → fp k ∨ w.heap.size ≤ k) ∧ Turn fp w w' := by
  by_cases hok : flipOk d s.data.toList z m = true
  · have hr : flipR d s.data.toList z m = (true, flip d s.data.toList z.toNat m) := by unfold flipR; rw [if_pos hok]
    rw [hr]
    unfold flipOk at hok
    simp only [Bool.and_eq_true, decide_eq_true_eq] at hok
    obtain ⟨⟨⟨h1, h2⟩, h3⟩, h4⟩ := hok
    have := flip_gen h s h1 z.toNat m (8 * (DiskM.old d s.data.toList).1.length - z.toNat) (by omega) (by omega) ((Nat.log2_lt h2).1 (by omega)) h2 hml
    rwa [Int.toNat_of_nonneg h3] at this
  have hr : flipR d s.data.toList z m = (false, d) := by unfold flipR; rw [if_neg hok]
  rw [hr]
  have h0 := h
  obtain ⟨mb, fv, h⟩ := h
  have hcm := h.cell.1
  have hlk := h.look_ok s hs
  have hold := h.old s.data.toList
  have hfil := h.fil s.data.toList
  have hus := old_used h.ok s.data.toList
  have hu2 := h.ok.used
  obtain ⟨f, hfe⟩ : ∃ f, getF fv s.data.toList = f := ⟨_, rfl⟩
  rw [hfe] at hlk hold hfil
  have hfl : f.bs.length = f.n := hfil.1
  have hfn : f.n ≤ 16777216 := by rw [hold] at hus; have : f.bs.length ≤ used d.files := hus; omega
  have hend : (fun (e : Ending) w' => e = .returned (.bool false) ∧ ∃ fp', DiskAt w' fp' p d ∧ (∀ k, fp' k → fp k ∨ w.heap.size ≤ k) ∧ Turn fp w w') (.returned (.bool false)) (w.alloc (.cells #[.slice f.a f.n f.c, .int .i64 (f.sure : Int)] 102)) := by
    have hb : Below w.heap.size w (w.alloc (.cells #[.slice f.a f.n f.c, .int .i64 (f.sure : Int)] 102)) := (Below.refl _ _).alloc (Nat.le_refl _) _
    exact ⟨rfl, fp, h0.below hb, fun k hk => .inl hk, Turn.of_below hb _⟩
  have HEND := Lib.hid hend
  have w1_ : IntKind.i64.wrap (8 * (f.n : Int)) = 8 * (f.n : Int) := by rw [IntKind.wrap_i64]; omega
  have hbits : (DiskM.old d s.data.toList).1.length = f.n := by rw [hold]; exact hfl
  clear h h0 hfe hus hu2 hfil hold hend hr
  cases hso : (DiskM.look s.data.toList d.files).isSome with
  | false =>
    rw [hso] at hlk
    have HX := Lib.hid (And.intro hok (And.intro hbits (And.intro hso hfl)))
    clear hok hbits hso hfl
    go_enter Try.func58, Try.ntmps58
    go_wp2_with fail
    go_ret
    exact ⟨rfl, HEND.out.2⟩
  | true =>
    rw [hso] at hlk
    by_cases hm : m = 0
    · subst hm
      have HX := Lib.hid (And.intro hok (And.intro hbits (And.intro hso hfl)))
      clear hok hbits hso hfl
      go_enter Try.func58, Try.ntmps58
      go_wp2_with fail
      go_ret
      exact ⟨rfl, HEND.out.2⟩
    have c1_ : ((m : Int) == 0) = false := by rw [beq_eq_false_iff_ne]; omega
    have c1' : ¬ ((m : Int) = 0) := by omega
    by_cases hz : z < 0
    · have HX := Lib.hid (And.intro hok (And.intro hbits (And.intro hso hfl)))
      clear hok hbits hso hfl hm
      go_enter Try.func58, Try.ntmps58
      go_wp2_with fail
      go_ret
      exact ⟨rfl, HEND.out.2⟩
    by_cases hz8 : 8 * (f.n : Int) ≤ z
    · have HX := Lib.hid (And.intro hok (And.intro hbits (And.intro hso hfl)))
      clear hok hbits hso hfl hm
      go_enter Try.func58, Try.ntmps58
      go_wp2_with fail
      go_ret
      exact ⟨rfl, HEND.out.2⟩
    obtain ⟨R, hR⟩ : ∃ R : Nat, 8 * (f.n : Int) - z = (R : Int) := ⟨(8 * (f.n : Int) - z).toNat, by omega⟩
    have hbig : 2 ^ R ≤ m := by
      refine Nat.le_of_not_lt fun hlt => hok ?_
      have := (Nat.log2_lt hm).2 hlt
      unfold flipOk
      rw [hso, decide_eq_true hm, decide_eq_true (by omega), decide_eq_true (by rw [hbits]; omega)]
      rfl
    have hR32 : R < 32 := by
      refine Nat.lt_of_not_le fun hle => ?_
      have : 2 ^ 32 ≤ 2 ^ R := Nat.pow_le_pow_right (by omega) hle
      omega
    have hq : m / 2 ^ R ≠ 0 := by
      have := Nat.div_pos hbig (Nat.pos_of_ne_zero (by simp))
      omega
    have e : (m : Int) / 2 ^ R = ((m / 2 ^ R : Nat) : Int) := by simp
    obtain ⟨Q, hQ⟩ : ∃ Q, m / 2 ^ R = Q := ⟨_, rfl⟩
    rw [hQ] at e hq
    have c6 : ((Q : Int) == 0) = false := by rw [beq_eq_false_iff_ne]; omega
    have c6' : ¬ ((Q : Int) = 0) := by omega
    have c4 : (R : Int) < 32 := by omega
    have c3 : ¬ (8 * (f.n : Int) ≤ z) := by omega
    have HX := Lib.hid (And.intro hok (And.intro hbits (And.intro hso hfl)))
    clear hok hbits hso hfl hm hbig hR32 hq hQ
    go_enter Try.func58, Try.ntmps58
    go_wp2_with fail
    go_ret
    exact ⟨rfl, HEND.out.2⟩
end Go.Proofs.Ytopnhplacdbkdaa
