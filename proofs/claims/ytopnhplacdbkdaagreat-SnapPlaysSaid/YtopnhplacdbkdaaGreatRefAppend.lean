/- The walk of the reference disk's Append. Condition: the reference disk lies behind its pointer; the bytes lie off it. -/
/- The walk of the reference disk's Sync; a file's cells are written in place. Condition: the reference disk lies behind its pointer. -/
import Derived.Test.YtopnhplacdbkdaaGreatRefPut
import Derived.StillTailTactics
namespace Go.Proofs.YtopnhplacdbkdaaGreat
open Go.RowKit DiskM

/-- what told says -/
def toldN (on : Bool) : Nat := if on then 0 else 15
theorem told_n (on : Bool) (w : World) : Calls Tryz.prog 60 #[.bool on] w fun e w' => e = .returned (.int .i64 (toldN on : Nat)) ∧ w = w' := told_any on w
theorem RefRaw.more {w : World} {fq fq' : Nat → Prop} {r : Nat} {a : Option Addr} {n c : Nat} {L : Int} {fv : FVs} {d : DS} (h : RefRaw w fq r a n c L fv d) (h1 : ∀ k, fq k → fq' k) (h2 : ∀ k, fq' k → k < w.heap.size) : RefRaw w fq' r a n c L fv d :=
  ⟨h.cells, h.left, h.row, h.num, h1 _ h.fqr, fun x hx => h1 _ (h.fqa x hx), fun x hx => ⟨(h.rows x hx).1, fun ad ha => h1 _ ((h.rows x hx).2 ad ha)⟩, h.files, h2, h.ok⟩

theorem three_set (W : World) (b : Nat) (t : TypeId) (a0 a1 a2 v0 v1 v2 : Value) (h : W.heap[b]? = some (.cells #[a0, a1, a2] t (0, 0))) : (((W.setCell ⟨b, 0, none⟩ v0).setCell ⟨b, 1, none⟩ v1).setCell ⟨b, 2, none⟩ v2).heap[b]? = some (.cells #[v0, v1, v2] t (0, 0)) := by
  have h1 := heap_setCell_same W b 0 _ _ v0 h
  have h2 := heap_setCell_same _ b 1 _ _ v1 h1
  have h3 := heap_setCell_same _ b 2 _ _ v2 h2
  exact h3
theorem RefAt.drewN {w : World} {fq : Nat → Prop} {r : Nat} {d : DS} (h : RefAt w fq r d) (k : Nat) : RefAt (w.drewN k) fq r d := h.keep (fun _ _ => rfl) (Nat.le_refl _)
set_option maxRecDepth 100000 in
set_option maxHeartbeats 4000000 in
theorem refappend_any {w : World} {fq : Nat → Prop} {r : Nat} {d : DS} (h : RefAt w fq r d) (s : ByteArray) (hs : s.size ≤ maxLen) (ab : Option Addr) (nb cb : Nat) (bs : List UInt8) (hnb : bs.length = nb) (hrd : Rd w w.heap.size ab bs) (hna : bs = [] ∨ ∀ x, ab = some x → ¬ fq x.block) (hfew : d.files.length < 1000000) :
    Calls Tryz.prog 22 #[.pointer (some ⟨r, 0, none⟩), .string s, .slice ab nb cb] w (RefWrote w fq r (DiskM.append d s.data.toList bs)) := by
  have h0 := h
  obtain ⟨a, n, c, L, fv, h⟩ := h
  have hc5 : w.cell? ⟨r, 5, none⟩ = some (.bool d.down) := cell_of_row _ _ 5 _ _ _ h.cells
  have hc1 : w.cell? ⟨r, 1, none⟩ = some (.int .i64 (d.room : Int)) := cell_of_row _ _ 1 _ _ _ h.cells
  have hnum := h.num
  have hu := h.ok.used
  have hro := h.ok.room
  have H := Lib.hid h
  have HA := Lib.hid h0
  have HS := Lib.hid hs
  have HNB := Lib.hid hnb
  have HRD := Lib.hid hrd
  have HNA := Lib.hid hna
  have HFEW := Lib.hid hfew
  clear h h0 hs hnb hrd hna hfew
  by_cases hdn : d.down = true
  · have HR := Lib.hid (show DiskM.append d s.data.toList bs = (15, d) from write_dead hdn)
    rw [hdn] at hc5
    clear hdn
    go_enter Tryz.func22, Tryz.ntmps22
    go_wp2_with fail
    go_ret
    rw [HR.out]
    exact ⟨rfl, ⟨fq, HA.out, fun k hk => .inl hk⟩, Turn.refl _ _⟩
  have hdn' : d.down = false := by simpa using hdn
  have HDN := Lib.hid hdn'
  rw [hdn'] at hc5
  clear hdn hdn'
  by_cases hnm : named s.data.toList = true
  rotate_left
  · have hnm' : named s.data.toList = false := by simpa using hnm
    have HR := Lib.hid (show DiskM.append d s.data.toList bs = (1, d) by
      unfold DiskM.append
      have : appendAsk d s.data.toList bs = 1 := by unfold appendAsk; rw [if_neg hnm]
      rw [this]
      exact write_no HDN.out (by omega))
    have HNM := Lib.hid hnm'
    clear hnm hnm'
    go_enter Tryz.func22, Tryz.ntmps22
    go_wp2_with fail
    refine (refname_any s _ HS.out).mono ?_
    rw [HNM.out]
    rintro e w' ⟨rfl, rfl⟩
    go_wp2_with fail
    go_ret
    rw [HR.out]
    exact ⟨rfl, ⟨fq, HA.out, fun k hk => .inl hk⟩, Turn.refl _ _⟩
  have HNM := Lib.hid hnm
  clear hnm
  have hwr : IntKind.i64.wrap ((d.room : Int) - (used d.files : Nat)) = (d.room : Int) - (used d.files : Nat) := by rw [IntKind.wrap_i64]; omega
  by_cases hroom : d.room < nb + used d.files
  · have HR := Lib.hid (show DiskM.append d s.data.toList bs = (14, d) by
      unfold DiskM.append
      have : appendAsk d s.data.toList bs = 14 := by unfold appendAsk; rw [if_pos HNM.out, if_pos (by rw [HNB.out]; exact hroom)]
      rw [this]
      exact write_no HDN.out (by omega))
    have hcmp : (d.room : Int) - (used d.files : Nat) < (nb : Int) := by omega
    clear hroom
    go_enter Tryz.func22, Tryz.ntmps22
    go_wp2_with fail
    refine (refname_any s _ HS.out).mono ?_
    rw [HNM.out]
    rintro e w' ⟨rfl, rfl⟩
    go_wp2_with fail
    go_quiet ((go_at_call 32; exact Calls.quiet_of_same ((refused_any (HA.out.drewN _)).mono fun _ _ h => ⟨h.1, h.2.symm⟩)))
    go_wp2_with fail
    go_ret
    rw [HR.out]
    exact ⟨rfl, ⟨fq, HA.out.below ⟨rfl, rfl, rfl, Nat.le_refl _, fun _ _ => rfl⟩, fun k hk => .inl hk⟩, (Turn.refl _ _).drewN _⟩
  have HASK := Lib.hid (show appendAsk d s.data.toList bs = 0 by unfold appendAsk; rw [if_pos HNM.out, if_neg (by rw [HNB.out]; exact hroom)])
  have hcmp : ¬ ((d.room : Int) - (used d.files : Nat) < (nb : Int)) := by omega
  have hnb : nb ≤ 16777216 := by omega
  have HROOM := Lib.hid (show nb + used d.files ≤ d.room by omega)
  clear hroom
  go_enter Tryz.func22, Tryz.ntmps22
  go_wp2_with fail
  refine (refname_any s _ HS.out).mono ?_
  rw [HNM.out]
  rintro e w' ⟨rfl, rfl⟩
  go_wp2_with fail
  go_quiet ((go_at_call 32; exact Calls.quiet_of_same ((refused_any (HA.out.drewN _)).mono fun _ _ h => ⟨h.1, h.2.symm⟩)))
  have HQ : Below w.heap.size w (w.drewN nq) := ⟨rfl, rfl, rfl, Nat.le_refl _, fun _ _ => rfl⟩
  obtain ⟨wq, hwq⟩ : ∃ wq, wq = w.drewN nq := ⟨_, rfl⟩
  rw [← hwq] at HQ ⊢
  have hq := H.out.keep (w' := wq) (fun k hk => HQ.block k (H.out.lt k hk)) HQ.size
  have hrq := HRD.out.step HQ
  clear hwq hwr hc5 hc1
  go_wp2_with fail
  refine (refpower_any hq true).mono ?_
  rintro e w1 ⟨rfl, ⟨L1, h1⟩, ht1⟩
  obtain ⟨on, hon⟩ : ∃ on, goes d = on := ⟨_, rfl⟩
  rw [hon, Bool.true_or, Bool.or_true]
  have HR := Lib.hid (show DiskM.append d s.data.toList bs = (toldN on, appendDo s.data.toList bs (gone d)) from write_both HDN.out HASK.out hon)
  have HT1 := Lib.hid ((Turn.of_below HQ fq).trans0 ht1)
  have hr1 := (rd_or hrq ht1 (Nat.le_refl _) HNA.out).more ht1.size
  have H1 := Lib.hid h1
  have hgf : (gone d).files = d.files := (gone_files d).1
  have hgr : (gone d).room = d.room := (gone_files d).2.1
  have HGOK := Lib.hid (show (DiskM.setF (gone d) s.data.toList ((DiskM.old (gone d) s.data.toList).1 ++ bs, (DiskM.old (gone d) s.data.toList).2)).Ok from append_ok (gone_ok H.out.ok) HNM.out (by rw [HNB.out, hgf, hgr]; exact HROOM.out) (by rw [hgf]; exact HFEW.out))
  have hos : (DiskM.old (gone d) s.data.toList).1.length ≤ 16777216 := Nat.le_trans (old_used (gone_ok H.out.ok) _) (gone_ok H.out.ok).used
  have HR1 := Lib.hid hr1
  have HOS := Lib.hid hos
  clear hon h1 ht1 hgf hgr hr1 hos hq hrq HQ hcmp
  go_wp2_with fail
  have hbf : Below w1.heap.size w1 (w1.alloc (.cells #[.string s, .slice none 0 0, .int .i64 0] 79)) := (Below.refl _ _).alloc (Nat.le_refl _) _
  have hbx := heap_alloc_new w1 (.cells #[.string s, .slice none 0 0, .int .i64 0] 79)
  have hszf : (w1.alloc (.cells #[.string s, .slice none 0 0, .int .i64 0] 79)).heap.size = w1.heap.size + 1 := by simp
  obtain ⟨Wf, hWf⟩ : ∃ Wf, Wf = w1.alloc (.cells #[.string s, .slice none 0 0, .int .i64 0] 79) := ⟨_, rfl⟩
  rw [← hWf] at hbf hbx hszf ⊢
  have H2 := Lib.hid (H1.out.keep (w' := Wf) (fun k hk => hbf.block k (H1.out.lt k hk)) hbf.size)
  have HBX := Lib.hid hbx
  clear hWf hbx
  refine (refat_any H2.out s).mono ?_
  rintro e w' ⟨⟨z, rfl, hz⟩, rfl⟩
  go_upto_if 39 with fail
  go_cut [] (fun wx => ∃ f0 : FileV, wx.heap[w1.heap.size]? = some (.cells #[.string s, .slice f0.a f0.n f0.c, .int .i64 (f0.sure : Int)] 79 (0, 0)) ∧ Below w1.heap.size w1 wx ∧ wx.heap.size = w1.heap.size + 1 ∧ Fil wx f0.a f0.n f0.c f0.bs ∧ DiskM.old (gone d) s.data.toList = f0.abs)
  case first =>
    rcases hz with ⟨i, x, rfl, hx, hk⟩ | ⟨rfl, hno⟩
    · obtain ⟨g, rfl, g0, g1, g2⟩ := H2.out.at_ hx
      have hc0 : Wf.cell? ⟨r, 0, none⟩ = some (.slice (some ⟨g, 0, none⟩) n c) := cell_of_row _ _ 0 _ _ _ H2.out.cells
      have hz' : (0 : Int) ≤ (i : Int) := by omega
      have hil' : (i : Int) < (n : Int) := by have := (List.getElem?_eq_some_iff.1 hx).1; omega
      have b0 : Wf.cell? ⟨w1.heap.size, 0, none⟩ = some (.string s) := cell_of_row _ _ 0 _ _ _ HBX.out
      have b1 : Wf.cell? ⟨w1.heap.size, 1, none⟩ = some (.slice none 0 0) := cell_of_row _ _ 1 _ _ _ HBX.out
      have b2 : Wf.cell? ⟨w1.heap.size, 2, none⟩ = some (.int .i64 0) := cell_of_row _ _ 2 _ _ _ HBX.out
      have f0 : Wf.frozen? ⟨w1.heap.size, 0, none⟩ = false := frozen_of_row _ _ 0 _ _ HBX.out
      have f1 : Wf.frozen? ⟨w1.heap.size, 1, none⟩ = false := frozen_of_row _ _ 1 _ _ HBX.out
      have f2 : Wf.frozen? ⟨w1.heap.size, 2, none⟩ = false := frozen_of_row _ _ 2 _ _ HBX.out
      have HX := Lib.hid hx
      have HK := Lib.hid hk
      clear hx hk
      go_wp2_with fail
      go_meet
      have e0 : (⟨x.1.toArray⟩ : ByteArray) = s := by rw [HK.out]
      have hfx := (H2.out.rows x (List.mem_of_getElem? HX.out))
      refine ⟨x.2, ?_, ?_, by simp [World.setCell, hszf], ?_, old_some (HK.out ▸ H2.out.look_in HX.out)⟩
      · have := three_set Wf w1.heap.size _ _ _ _ (.string ⟨x.1.toArray⟩) (.slice x.2.a x.2.n x.2.c) (.int .i64 (x.2.sure : Int)) HBX.out
        rw [e0] at this ⊢
        exact this
      · exact ((hbf.setCell (p := ⟨w1.heap.size, 0, none⟩) (Nat.le_refl _) _).setCell (p := ⟨w1.heap.size, 1, none⟩) (Nat.le_refl _) _).setCell (p := ⟨w1.heap.size, 2, none⟩) (Nat.le_refl _) _
      · refine hfx.1.keep fun ad ha => ?_
        have hlt : ad.block < w1.heap.size := H1.out.lt _ (hfx.2 ad ha)
        have hne : ad.block ≠ w1.heap.size := by omega
        exact (Below.heap_setCell _ ⟨w1.heap.size, 2, none⟩ _ _ hne).trans ((Below.heap_setCell _ ⟨w1.heap.size, 1, none⟩ _ _ hne).trans (Below.heap_setCell _ ⟨w1.heap.size, 0, none⟩ _ _ hne))
    · have HO := Lib.hid (show DiskM.old (gone d) s.data.toList = ([], 0) from old_no (H2.out.look_no hno))
      clear hno
      go_wp2_with fail
      go_meet
      exact ⟨⟨none, 0, 0, [], 0⟩, HBX.out, hbf, hszf, Fil.nil_ _, HO.out⟩
  case rest =>
    obtain ⟨f0, hbx, hb, hsz, hfil, hold⟩ := hcut
    have hfl : f0.bs.length = f0.n := hfil.1
    have hfn : f0.n ≤ 16777216 := by have := HOS.out; rw [hold] at this; have h2 : f0.bs.length ≤ 16777216 := this; omega
    have HBX2 := Lib.hid hbx
    have HSZ := Lib.hid hsz
    have hsz1 : w1.heap.size < wc.heap.size := by omega
    have HFL := Lib.hid hfl
    have HOLD := Lib.hid hold
    have k1 : wc.cell? ⟨w1.heap.size, 1, none⟩ = some (.slice f0.a f0.n f0.c) := cell_of_row _ _ 1 _ _ _ hbx
    have hlx := Own.lit (B := wc.heap.size) (bs := []) wc (Nat.le_refl _) #[] rfl (by simp)
    have hbl : Below wc.heap.size wc (wc.alloc (.cells #[] 5)) := (Below.refl _ _).alloc (Nat.le_refl _) _
    have hrx : Rd (wc.alloc (.cells #[] 5)) wc.heap.size f0.a f0.bs := hfil.rd.below hbl
    have hrb0 : Rd wc wc.heap.size ab bs := (HR1.out.below hb).more hb.size
    have HLX := Lib.hid hlx
    have HRX := Lib.hid hrx
    have HRB := Lib.hid hrb0
    clear hbx hfl hold hlx hrx hrb0 hfil hsz hszf
    go_wp2_with (first
      | (at_builtin; refine wpList_append_b rfl (.tmp 47) (.tmp 49) rfl wc _ wc.heap.size hbl (by simp) _ 0 0 [] rfl HLX.out _ f0.a f0.n f0.c f0.bs rfl HRX.out HFL.out f0.n (by omega) (by omega) ?_; intro a4 c4 w4 ho4 hg4 hb4 hat4; have HO4 := Lib.hid ho4; have hs4 := hb4.size; clear ho4 hg4 hat4)
      | (at_builtin; refine wpList_append_b rfl (.tmp 50) (.tmp 51) rfl wc _ wc.heap.size hb4 hs4 _ f0.n c4 _ rfl HO4.out _ ab nb cb bs rfl (HRB.out.below hb4) HNB.out (f0.n + nb) rfl (by omega) ?_; intro a5 c5 w5 ho5 hg5 hb5 hat5; have HO5 := Lib.hid ho5; have hs5 := hb5.size; have hx5 := (hb5.block w1.heap.size (by omega)).trans HBX2.out; have f5 : w5.frozen? ⟨w1.heap.size, 1, none⟩ = false := frozen_of_row _ _ 1 _ _ hx5; have b50 : w5.cell? ⟨w1.heap.size, 0, none⟩ = some (.string s) := cell_of_row _ _ 0 _ _ _ hx5; have b51 : w5.cell? ⟨w1.heap.size, 1, none⟩ = some (.slice f0.a f0.n f0.c) := cell_of_row _ _ 1 _ _ _ hx5; have b52 : w5.cell? ⟨w1.heap.size, 2, none⟩ = some (.int .i64 (f0.sure : Int)) := cell_of_row _ _ 2 _ _ _ hx5; have HX5 := Lib.hid hx5; clear ho5 hg5 hat5 hx5 k1))
    obtain ⟨W6, hW6⟩ : ∃ W6, W6 = w5.setCell ⟨w1.heap.size, 1, none⟩ (.slice a5 (f0.n + nb) c5) := ⟨_, rfl⟩
    rw [← hW6]
    have hb6 : Below w1.heap.size w1 W6 := by
      rw [hW6]
      exact (hb.trans (hb5.mono (by omega))).setCell (p := ⟨w1.heap.size, 1, none⟩) (Nat.le_refl _) _
    have hs6 : W6.heap.size = w5.heap.size := by rw [hW6]; simp [World.setCell]
    have ho6 : Own W6 wc.heap.size a5 (f0.n + nb) c5 (f0.bs ++ bs) := by
      rw [hW6]
      have := HO5.out
      rw [List.nil_append] at this
      refine this.far (fun x hx => ?_) _
      have := this.blk_lt x.block ⟨x, hx, rfl⟩
      show x.block ≠ w1.heap.size
      omega
    have h6 : RefRaw W6 (fun k => fq k ∨ blk a5 k) r a n c L1 fv (gone d) := (H1.out.keep (fun k hk => hb6.block k (H1.out.lt k hk)) hb6.size).more (fun k hk => .inl hk) (fun k hk => by
      rcases hk with hk | hk
      · have := H1.out.lt k hk; have := hb6.size; omega
      · have := ho6.blk_lt k hk; omega)
    have hf6 : FileV.abs ⟨a5, f0.n + nb, c5, f0.bs ++ bs, f0.sure⟩ = ((DiskM.old (gone d) s.data.toList).1 ++ bs, (DiskM.old (gone d) s.data.toList).2) := by rw [HOLD.out]; rfl
    have hcall := refput_any h6 s ⟨a5, f0.n + nb, c5, f0.bs ++ bs, f0.sure⟩ ho6.fil (fun ad ha => .inr ⟨ad, ha, rfl⟩) (by rw [hf6]; exact HGOK.out)
    rw [hf6] at hcall
    have HC := Lib.hid hcall
    have HB6 := Lib.hid hb6
    have HO6 := Lib.hid ho6
    clear hW6 hb6 ho6 h6 hf6 hcall f5 b50 b51 b52 hs6
    refine HC.out.mono ?_
    intro e w7 hp
    obtain ⟨rfl, ⟨fq7, hat7, hn7, ho7⟩, ht7⟩ := hp
    have HAT := Lib.hid hat7
    have HN7 := Lib.hid hn7
    have HT7 := Lib.hid ht7
    clear hat7 hn7 ho7 ht7
    go_wp2_with fail
    refine (told_n _ _).mono ?_
    rintro e w8 ⟨rfl, rfl⟩
    go_wp2_with fail
    go_ret
    rw [HR.out]
    have hss := HT1.out.size
    refine ⟨rfl, ⟨fq7, HAT.out, fun k hk => ?_⟩, (HT1.out.trans0 (Turn.of_below HB6.out _)).trans0 (HT7.out.more fun k _ e => by rw [e]; exact H1.out.fqr)⟩
    rcases HN7.out k hk with (h | h) | h
    · exact .inl h
    · have := HO6.out.blk_lt k h; exact .inr (by omega)
    · have := HB6.out.size; exact .inr (by omega)
end Go.Proofs.YtopnhplacdbkdaaGreat
namespace Go.Proofs.YtopnhplacdbkdaaGreat
open Go.RowKit DiskM

theorem Row.set {w : World} {B : Nat} {e : TypeId} {k : Nat} {g n c : Nat} {xs : List Value} (h : Row w B e k (some ⟨g, 0, none⟩) n c xs) (j : Nat) (v : Value) : Row (w.setCell ⟨g, j, none⟩ v) B e k (some ⟨g, 0, none⟩) n c (xs.set j v) := by
  rcases h.form with ⟨h0, _⟩ | ⟨g', cur, e1, hB, hg, hh, hn, hc, hs, ht⟩
  · cases h0
  · injection e1 with e1; injection e1 with e1; subst e1
    refine ⟨by rw [List.length_set]; exact h.1, .inr ⟨g, c, cur.setIfInBounds j v, rfl, hB, heap_setCell_same _ _ _ _ _ _ hh, hn, hc, by simpa using hs, ?_⟩⟩
    rw [Array.toList_setIfInBounds, List.take_set, ht]
theorem refFiles_set (y : Nm × FileV) : ∀ (fv : FVs) (i : Nat), i < fv.length → refFiles (fv.set i y) = (((refFiles fv).set (i * 3) (.string ⟨y.1.toArray⟩)).set (i * 3 + 1) (.slice y.2.a y.2.n y.2.c)).set (i * 3 + 2) (.int .i64 (y.2.sure : Int))
  | x :: l, 0, _ => rfl
  | x :: l, i + 1, h => by
    have ih := refFiles_set y l i (by simpa using h)
    have e : refFiles (x :: l) = .string ⟨x.1.toArray⟩ :: .slice x.2.a x.2.n x.2.c :: .int .i64 (x.2.sure : Int) :: refFiles l := rfl
    rw [List.set_cons_succ, e, show refFiles (x :: l.set i y) = .string ⟨x.1.toArray⟩ :: .slice x.2.a x.2.n x.2.c :: .int .i64 (x.2.sure : Int) :: refFiles (l.set i y) from rfl, ih]
    rw [show (i + 1) * 3 = i * 3 + 1 + 1 + 1 by omega]
    simp only [List.set_cons_succ, show i * 3 + 1 + 1 + 1 + 1 = (i * 3 + 1) + 1 + 1 + 1 by omega, show i * 3 + 1 + 1 + 1 + 2 = (i * 3 + 2) + 1 + 1 + 1 by omega]
theorem set_as {α : Type} {l : List α} {j : Nat} {v : α} (h : l[j]? = some v) : l.set j v = l := by
  refine List.ext_getElem? fun i => ?_
  rw [List.getElem?_set]
  split
  · next e =>
    subst e
    rw [if_pos (List.getElem?_eq_some_iff.1 h).1, h]
  · rfl
/-- a file's cells are others now -/
theorem RefRaw.set {w w2 : World} {fq : Nat → Prop} {r : Nat} {n c g : Nat} {L : Int} {fv : FVs} {d : DS} (h : RefRaw w fq r (some ⟨g, 0, none⟩) n c L fv d) {i : Nat} {x : Nm × FileV} (hx : fv[i]? = some x) (f' : FileV) (hrow : Row w2 0 79 3 (some ⟨g, 0, none⟩) n c (refFiles (fv.set i (x.1, f'))))
    (hk : ∀ k, k ≠ g → w2.heap[k]? = w.heap[k]?) (hs : w2.heap.size = w.heap.size) (hf : Fil w f'.a f'.n f'.c f'.bs) (hfq : ∀ ad, f'.a = some ad → fq ad.block) (hok : (DiskM.setF d x.1 f'.abs).Ok) :
    RefRaw w2 fq r (some ⟨g, 0, none⟩) n c L (fv.set i (x.1, f')) (DiskM.setF d x.1 f'.abs) := by
  have hg : ∃ cur, w.heap[g]? = some (.cells cur 79 (0, 0)) := by
    rcases h.row.form with ⟨h0, _⟩ | ⟨g', cur, e1, _, _, hh, _⟩
    · cases h0
    · injection e1 with e1; injection e1 with e1; subst e1; exact ⟨cur, hh⟩
  obtain ⟨cur, hg⟩ := hg
  have hne : ∀ (k : Nat) (cs : Array Value) (t : TypeId) (f : Nat × Nat), w.heap[k]? = some (Obj.cells cs t f) → t ≠ 79 → w2.heap[k]? = w.heap[k]? := fun k cs t f hk' ht => hk k fun e => by
    rw [e, hg] at hk'
    injection hk' with hk'
    injection hk' with _ hk' _
    exact ht hk'.symm
  have hfil : ∀ (y : FileV), Fil w y.a y.n y.c y.bs → Fil w2 y.a y.n y.c y.bs := fun y hy => hy.keep fun ad ha => by
    obtain ⟨cur, hh⟩ := hy.cellsAt ad ha
    exact hne _ _ _ _ hh (by decide)
  have hdi : d.files[i]? = some (x.1, x.2.abs) := by rw [h.files, List.getElem?_map, hx]; rfl
  refine ⟨(hne _ _ _ _ h.cells (by decide)).trans h.cells, h.left, hrow, by rw [List.length_set]; exact h.num, h.fqr, h.fqa, fun y hy => ?_, ?_, fun k hk => by rw [hs]; exact h.lt k hk, hok⟩
  · rcases List.mem_or_eq_of_mem_set hy with hy | rfl
    · exact ⟨hfil _ (h.rows y hy).1, (h.rows y hy).2⟩
    · exact ⟨hfil _ hf, hfq⟩
  · show DiskM.put x.1 f'.abs d.files = _
    rw [put_set h.ok.rising hdi, h.files, List.map_set]; rfl

set_option maxRecDepth 100000 in
set_option maxHeartbeats 2000000 in
theorem refsync_any {w : World} {fq : Nat → Prop} {r : Nat} {d : DS} (h : RefAt w fq r d) (s : ByteArray) :
    Calls Tryz.prog 85 #[.pointer (some ⟨r, 0, none⟩), .string s] w (RefWrote w fq r (DiskM.sync d s.data.toList)) := by
  have h0 := h
  obtain ⟨a, n, c, L, fv, h⟩ := h
  have hc5 : w.cell? ⟨r, 5, none⟩ = some (.bool d.down) := cell_of_row _ _ 5 _ _ _ h.cells
  have hnum := h.num
  have H := Lib.hid h
  have HA := Lib.hid h0
  clear h h0
  by_cases hdn : d.down = true
  · have HR := Lib.hid (show DiskM.sync d s.data.toList = (15, d) from write_dead hdn)
    rw [hdn] at hc5
    clear hdn
    go_enter Tryz.func85, Tryz.ntmps85
    go_wp2_with fail
    go_ret
    rw [HR.out]
    exact ⟨rfl, ⟨fq, HA.out, fun k hk => .inl hk⟩, Turn.refl _ _⟩
  have hdn' : d.down = false := by simpa using hdn
  have HDN := Lib.hid hdn'
  rw [hdn'] at hc5
  clear hdn hdn'
  go_enter Tryz.func85, Tryz.ntmps85
  go_wp2_with fail
  refine (refat_any H.out s).mono ?_
  rintro e w' ⟨⟨z, rfl, hz⟩, rfl⟩
  rcases hz with ⟨i, x, rfl, hx, hk⟩ | ⟨rfl, hno⟩
  · have hz' : ¬ ((i : Int) < 0) := by omega
    have hil : i < n := by have := (List.getElem?_eq_some_iff.1 hx).1; omega
    have hlk : DiskM.look s.data.toList d.files = some x.2.abs := hk ▸ H.out.look_in hx
    have HLK := Lib.hid hlk
    have HK := Lib.hid (show DiskM.has d s.data.toList = 0 from has_in hlk)
    have HX := Lib.hid hx
    have HXK := Lib.hid hk
    clear hx hk hlk
    go_wp2_with fail
    refine (refpower_any H.out false).mono ?_
    rintro e w1 ⟨rfl, ⟨L1, h1⟩, ht1⟩
    obtain ⟨on, hon⟩ : ∃ on, goes d = on := ⟨_, rfl⟩
    rw [hon, Bool.false_or]
    obtain ⟨dd, hdd⟩ : ∃ dd, (on || d.done) = dd := ⟨_, rfl⟩
    rw [hdd]
    have hr : DiskM.sync d s.data.toList = (toldN on, if dd then syncDo s.data.toList (gone d) else gone d) := by
      have := write_do (f := syncDo s.data.toList) (g := id) HDN.out HK.out hon hdd
      exact this
    have HT1 := Lib.hid ht1
    have H1 := Lib.hid h1
    have hgf : (gone d).files = d.files := (gone_files d).1
    have HGL := Lib.hid (show DiskM.look s.data.toList (gone d).files = some x.2.abs by rw [hgf]; exact HLK.out)
    clear hon hdd h1 ht1 hgf
    cases dd
    · have HR := Lib.hid (show DiskM.sync d s.data.toList = (toldN on, gone d) from hr)
      clear hr
      go_wp2_with fail
      refine (told_n _ _).mono ?_
      rintro e w2 ⟨rfl, rfl⟩
      go_wp2_with fail
      go_ret
      rw [HR.out]
      exact ⟨rfl, ⟨fq, ⟨_, _, _, _, _, H1.out⟩, fun k hk => .inl hk⟩, HT1.out⟩
    · have HR := Lib.hid (show DiskM.sync d s.data.toList = (toldN on, syncDo s.data.toList (gone d)) from hr)
      clear hr
      obtain ⟨g, rfl, g0, g1, g2⟩ := H1.out.at_ HX.out
      have hc0 : w1.cell? ⟨r, 0, none⟩ = some (.slice (some ⟨g, 0, none⟩) n c) := cell_of_row _ _ 0 _ _ _ H1.out.cells
      have fg : w1.frozen? ⟨g, i * 3 + 2, none⟩ = false := by
        rcases H1.out.row.form with ⟨h0, _⟩ | ⟨g', cur, e1, _, _, hh, _⟩
        · cases h0
        · injection e1 with e1; injection e1 with e1; subst e1; exact frozen_of_row _ _ _ _ _ hh
      have hil' : (i : Int) < (n : Int) := by omega
      have hrows := H1.out.rows x (List.mem_of_getElem? HX.out)
      have hxl : x.2.bs.length = x.2.n := hrows.1.1
      have hset : RefRaw (w1.setCell ⟨g, i * 3 + 2, none⟩ (.int .i64 (x.2.n : Int))) fq r (some ⟨g, 0, none⟩) n c L1 (fv.set i (x.1, { x.2 with sure := x.2.n })) (DiskM.setF (gone d) x.1 (x.2.bs, x.2.n)) := by
        refine H1.out.set HX.out { x.2 with sure := x.2.n } ?_ (fun k hk => Below.heap_setCell _ _ _ _ hk) (by simp [World.setCell]) hrows.1 hrows.2 ?_
        · have := H1.out.row.set (i * 3 + 2) (.int .i64 (x.2.n : Int))
          rw [refFiles_set _ _ _ (by omega), set_as (l := refFiles fv) (by rw [show i * 3 = i * 3 + 0 by omega, refFiles_get fv i 0 x HX.out (by omega)]; rfl), set_as (l := refFiles fv) (by rw [refFiles_get fv i 1 x HX.out (by omega)]; rfl)]
          exact this
        · exact same_ok H1.out.ok (v := x.2.abs) (HXK.out ▸ HGL.out) (Nat.le_refl _) (by show x.2.n ≤ x.2.bs.length; omega)
      have he : syncDo s.data.toList (gone d) = DiskM.setF (gone d) x.1 (x.2.bs, x.2.n) := by
        unfold syncDo
        rw [old_some HGL.out, HXK.out]
        show DiskM.setF (gone d) s.data.toList (x.2.bs, x.2.bs.length) = _
        rw [hxl]
      have HSET := Lib.hid hset
      have HE := Lib.hid he
      have HFG := Lib.hid (H1.out.fqa _ rfl)
      clear hset he hrows hxl
      go_wp2_with fail
      have g1d : w1.drew.cell? ⟨g, i * 3 + 1, none⟩ = some (.slice x.2.a x.2.n x.2.c) := g1
      have g2d : w1.drew.cell? ⟨g, i * 3 + 2, none⟩ = some (.int .i64 (x.2.sure : Int)) := g2
      have hc0d : w1.drew.cell? ⟨r, 0, none⟩ = some (.slice (some ⟨g, 0, none⟩) n c) := hc0
      have fgd : w1.drew.frozen? ⟨g, i * 3 + 2, none⟩ = false := fg
      have HSETd : Hid (RefRaw (w1.drew.setCell ⟨g, i * 3 + 2, none⟩ (.int .i64 (x.2.n : Int))) fq r (some ⟨g, 0, none⟩) n c L1 (fv.set i (x.1, { x.2 with sure := x.2.n })) (DiskM.setF (gone d) x.1 (x.2.bs, x.2.n))) := Lib.hid (HSET.out.keep (fun _ _ => rfl) (Nat.le_refl _))
      have HTd := Lib.hid HT1.out.drew
      clear g0 g1 g2 hc0 fg
      refine wp_region_still_tail 16 (by kernel_rfl) (by kernel_rfl) ?_
      change wpStill _ _ w1.drew (fun a' => wpList _ _ _ _ a' w1.drew) _ _
      generalize w1.drew = wd at *
      simp only [List.take_succ_cons, List.take_zero, List.drop_succ_cons, List.drop_zero]
      repeat still_step
      refine wpStill_nil ?_
      go_wp2_with fail
      refine (told_n _ _).mono ?_
      rintro e w2 ⟨rfl, rfl⟩
      go_wp2_with fail
      go_ret
      rw [HR.out]
      refine ⟨rfl, ⟨fq, ?_, fun k hk => .inl hk⟩, HTd.out.trans0 (Turn.setCell fq _ (p := ⟨g, i * 3 + 2, none⟩) HFG.out _)⟩
      show RefAt _ fq r (syncDo s.data.toList (gone d))
      rw [HE.out]
      exact ⟨_, _, _, _, _, HSETd.out⟩
  · have HR := Lib.hid (show DiskM.sync d s.data.toList = (12, d) by
      have := has_no (H.out.look_no hno)
      unfold DiskM.sync
      rw [this]
      exact write_no HDN.out (by omega))
    clear hno
    go_wp2_with fail
    go_ret
    rw [HR.out]
    exact ⟨rfl, ⟨fq, HA.out, fun k hk => .inl hk⟩, Turn.refl _ _⟩
end Go.Proofs.YtopnhplacdbkdaaGreat
