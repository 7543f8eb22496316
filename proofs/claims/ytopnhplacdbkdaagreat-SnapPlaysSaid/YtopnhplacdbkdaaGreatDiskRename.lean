/- The walks of the disk's Rename and its closures. Condition: the disk lies behind the pointer. -/
import Derived.Test.YtopnhplacdbkdaaGreatDiskSync
namespace Go.Proofs.YtopnhplacdbkdaaGreat
open Go.RowKit DiskM Go.Shelf

theorem MapAt.cell_none {w : World} {b : Nat} {es : List (Nm × Value)} (h : MapAt w b es) {v : Value} (hc : w.cell? ⟨b, 0, none⟩ = some v) : False := by
  obtain ⟨es', clock, hb, r⟩ := h
  simp [World.cell?, hb] at hc

set_option maxRecDepth 100000 in
set_option maxHeartbeats 1000000 in
theorem rename2_any {w : World} {fp : Nat → Prop} {p : Nat} {d : DS} (h : DiskAt w fp p d) (s : ByteArray) (hso : (DiskM.look s.data.toList d.files).isSome = true) (t : ByteArray) (ht16 : t.size ≤ 16) (bt bn bd : Nat) (ct : w.cell? ⟨bt, 0, none⟩ = some (.string t))
    (cn : w.cell? ⟨bn, 0, none⟩ = some (.string s)) (cd : w.cell? ⟨bd, 0, none⟩ = some (.pointer (some ⟨p, 0, none⟩))) :
    Calls Tryz.prog 93 #[.pointer (some ⟨bd, 0, none⟩), .pointer (some ⟨bn, 0, none⟩), .pointer (some ⟨bt, 0, none⟩)] w (DidIs w fp p (renameDo s.data.toList t.data.toList d)) := by
  have hs : s.size ≤ 16 := by have := name_le h.ok hso; simpa using this
  obtain ⟨mb, fv, h⟩ := h
  have ln : bn < w.heap.size := block_lt_of_cell cn
  have lt : bt < w.heap.size := block_lt_of_cell ct
  have nmn : bn ≠ mb := by intro e; rw [e] at cn; exact h.map.cell_none cn
  have nmd : bd ≠ mb := by intro e; rw [e] at cd; exact h.map.cell_none cd
  have nmt : bt ≠ mb := by intro e; rw [e] at ct; exact h.map.cell_none ct
  have ld : bd < w.heap.size := block_lt_of_cell cd
  have lp : p < w.heap.size := h.lt p h.fpp
  have hcm := h.cell.1
  have HK := Lib.hid (fun W hb => ⟨(hb.cell (p := ⟨bd, 0, none⟩) ld).trans cd, (hb.cell (p := ⟨bn, 0, none⟩) ln).trans cn, (hb.cell (p := ⟨p, 0, none⟩) lp).trans hcm, (h.below hb).look_plain s (by unfold maxLen; omega)⟩ : ∀ W, Below w.heap.size w W →
    W.cell? ⟨bd, 0, none⟩ = some (.pointer (some ⟨p, 0, none⟩)) ∧ W.cell? ⟨bn, 0, none⟩ = some (.string s) ∧ W.cell? ⟨p, 0, none⟩ = some (.map (some mb)) ∧
    (Instr.lookup 44 (.map (some mb)) (.string s) false).run Tryz.prog W = .ok (.agg #[.slice (getF fv s.data.toList).a (getF fv s.data.toList).n (getF fv s.data.toList).c, .int .i64 ((getF fv s.data.toList).sure : Int)]) W)
  have hB0 : Below w.heap.size w w := Below.refl _ _
  have HSO := Lib.hid hso
  clear hso
  go_enter Tryz.func93, Tryz.ntmps93
  go_wp2_with fail
  go_region_held3 (fun W => W.cell? ⟨bd, 0, none⟩ = some (.pointer (some ⟨p, 0, none⟩)) ∧ W.cell? ⟨bn, 0, none⟩ = some (.string s) ∧ W.cell? ⟨p, 0, none⟩ = some (.map (some mb)) ∧
      (Instr.lookup 44 (.map (some mb)) (.string s) false).run Tryz.prog W = .ok (.agg #[.slice (getF fv s.data.toList).a (getF fv s.data.toList).n (getF fv s.data.toList).c, .int .i64 ((getF fv s.data.toList).sure : Int)]) W)
    (first
      | exact HK.out _ hB0
      | exact HK.out _ hB0.drew
      | exact HK.out _ (hB0.alloc (Nat.le_refl _) _)
      | exact HK.out _ (hB0.alloc (Nat.le_refl _) _).drew)
    (first | fail)
  all_goals
    have hb1 : Below w.heap.size w (w.alloc (.cells #[.slice (getF fv s.data.toList).a (getF fv s.data.toList).n (getF fv s.data.toList).c, .int .i64 ((getF fv s.data.toList).sure : Int)] 70)).drew := (hB0.alloc (Nat.le_refl _) _).drew
    have hc10 : (w.alloc (.cells #[.slice (getF fv s.data.toList).a (getF fv s.data.toList).n (getF fv s.data.toList).c, .int .i64 ((getF fv s.data.toList).sure : Int)] 70)).drew.heap[w.heap.size]? = some (.cells #[.slice (getF fv s.data.toList).a (getF fv s.data.toList).n (getF fv s.data.toList).c, .int .i64 ((getF fv s.data.toList).sure : Int)] 70 (0, 0)) := heap_alloc_new w _
    have hs1 : w.heap.size < (w.alloc (.cells #[.slice (getF fv s.data.toList).a (getF fv s.data.toList).n (getF fv s.data.toList).c, .int .i64 ((getF fv s.data.toList).sure : Int)] 70)).drew.heap.size := by simp
    generalize (w.alloc (.cells #[.slice (getF fv s.data.toList).a (getF fv s.data.toList).n (getF fv s.data.toList).c, .int .i64 ((getF fv s.data.toList).sure : Int)] 70)).drew = w1 at *
    have hd1 := h.below hb1
    have hf1 := hd1.fil s.data.toList
    have hfp1 := hd1.filfp s.data.toList
    obtain ⟨f, hfe⟩ : ∃ f, getF fv s.data.toList = f := ⟨_, rfl⟩
    have HFE := Lib.hid hfe
    have HOLD := Lib.hid (hd1.old s.data.toList)
    rw [hfe] at hf1 hfp1 hc10 ⊢
    clear hfe
    have hnl := hf1.1
    have hc1a := cell_of_row w1 w.heap.size 0 _ _ _ hc10
    have hc1b := cell_of_row w1 w.heap.size 1 _ _ _ hc10
    have hcd1 := (HK.out w1 hb1).1
    have hcn1 := (HK.out w1 hb1).2.1
    have hcp1 := (HK.out w1 hb1).2.2.1
    have hct1 := (hb1.cell (p := ⟨bt, 0, none⟩) lt).trans ct
    have hso : (DiskM.look s.data.toList fv).isSome = true := by rw [← h.isSome]; exact HSO.out
    have HSF := Lib.hid hso
    clear hso
    go_wp2_with fail
    refine wp_region_still_tail 5 (by kernel_rfl) (by kernel_rfl) ?_
    change wpStill _ _ w1.drew (fun a' => wpList _ _ _ _ a' w1.drew) _ _
    obtain ⟨w2, hrun2, hd2, hg2, hf2⟩ := DiskRaw.dropped (w := w1.drew) (hd1.keep (fun _ _ => rfl) (Nat.le_refl _)) s (by unfold maxLen; omega) 0
    rw [HFE.out] at hf2
    have hcd1' : w1.drew.cell? ⟨bd, 0, none⟩ = some (.pointer (some ⟨p, 0, none⟩)) := hcd1
    have hcn1' : w1.drew.cell? ⟨bn, 0, none⟩ = some (.string s) := hcn1
    have hcp1' : w1.drew.cell? ⟨p, 0, none⟩ = some (.map (some mb)) := hcp1
    have hct1' : w1.drew.cell? ⟨bt, 0, none⟩ = some (.string t) := hct1
    have hc10' : w1.drew.heap[w.heap.size]? = some (.cells #[.slice f.a f.n f.c, .int .i64 (f.sure : Int)] 70 (0, 0)) := hc10
    have hs1' : w.heap.size < w1.drew.heap.size := hs1
    have ht12 : Turn (fun j => fp j ∨ w.heap.size ≤ j) w w1.drew := ((Turn.of_below hb1 _)).drew
    have hmw := h.lt _ h.fpm
    clear hcd1 hcn1 hcp1 hct1 hc10 hc1a hc1b hd1 hf1
    generalize w1.drew = w1d at *
    have hg2b : ∀ j, j < w1d.heap.size → j ≠ mb → w2.heap[j]? = w1d.heap[j]? := fun j hj hq => hg2.block j hj (fun e => hq (by injection e))
    have hs1w : w1d.heap.size = w1d.heap.size := rfl
    have hb1s : w.heap.size ≤ w1d.heap.size := by omega
    simp only [List.take_succ_cons, List.take_zero, List.drop_succ_cons, List.drop_zero]
    repeat still_step
    refine wpStill_nil ?_
    go_wp2_with fail
    have hs2 := hg2.size
    have hc20 := (hg2b w.heap.size hs1' (by omega)).trans hc10'
    have hcd4 : w2.drew.cell? ⟨bd, 0, none⟩ = some (.pointer (some ⟨p, 0, none⟩)) := (World.cell?_of_block (a := ⟨bd, 0, none⟩) (hg2b bd (by omega) nmd)).trans hcd1'
    have hct4 : w2.drew.cell? ⟨bt, 0, none⟩ = some (.string t) := (World.cell?_of_block (a := ⟨bt, 0, none⟩) (hg2b bt (by omega) nmt)).trans hct1'
    have hcp4 : w2.drew.cell? ⟨p, 0, none⟩ = some (.map (some mb)) := by rw [show w2.drew.cell? ⟨p, 0, none⟩ = w2.cell? ⟨p, 0, none⟩ from rfl]; exact hd2.cell.1
    have hc4a : w2.drew.cell? ⟨w.heap.size, 0, none⟩ = some (.slice f.a f.n f.c) := cell_of_row w2 w.heap.size 0 _ _ _ hc20
    have hc4b : w2.drew.cell? ⟨w.heap.size, 1, none⟩ = some (.int .i64 (f.sure : Int)) := cell_of_row w2 w.heap.size 1 _ _ _ hc20
    have hfa : DiskM.old d s.data.toList = f.abs := by rw [HOLD.out, HFE.out]
    have hap3 : ∀ x ∈ DiskM.del s.data.toList fv, x.1 ≠ t.data.toList → ∀ ax ad, x.2.a = some ax → f.a = some ad → ax.block ≠ ad.block := by
      intro x hx _ ax ad hax had
      obtain ⟨hx, hxk⟩ := mem_del.1 hx
      exact h.apart x hx _ (getF_mem HSF.out) hxk ax ad hax (by rw [HFE.out]; exact had)
    have hud := used_del h.ok.rising.apart s.data.toList
    have hlk : (DiskM.look s.data.toList d.files).isSome = true := HSO.out
    have hol : ((DiskM.look s.data.toList d.files).map fun x => x.1.length).getD 0 = f.bs.length := by
      have := hfa
      unfold DiskM.old at this
      cases hl : DiskM.look s.data.toList d.files with
      | none => rw [hl] at hlk; cases hlk
      | some v => rw [hl] at this; simp at this; simp [this, FileV.abs]
    rw [hol] at hud
    obtain ⟨w4, hrun4, hd4, hg4⟩ := DiskBut.store (w := w2.drew) ((hd2.keep (w' := w2.drew) (fun _ _ => rfl) (Nat.le_refl _)).but t.data.toList) t rfl ht16 f (hf2.keep fun _ _ => rfl) hap3
      (by have := old_le h.ok s.data.toList; rw [hfa] at this; exact this)
      (by have := h.ok.used; show f.bs.length + used (DiskM.del s.data.toList d.files) ≤ _; omega)
      (by have h1 := put_length t.data.toList f.abs (DiskM.del s.data.toList d.files); have h2 := del_length_some h.ok.rising.apart hlk; have := h.ok.few; show (DiskM.put t.data.toList f.abs (DiskM.del s.data.toList d.files)).length ≤ _; omega)
    have hrun4' : (Instr.mapUpdate 44 (.map (some mb)) (.string t) (.agg #[.slice f.a f.n f.c, .int .i64 (f.sure : Int)])).run Tryz.prog w2.drew = .ok () w4 := hrun4
    have HFA := Lib.hid hfa
    have ht13 : Turn (fun j => fp j ∨ w.heap.size ≤ j) w w2.drew := (ht12.trans0 (Turn.of_grown hg2 (fun r hr hl => .inl (by injection hr with hr; rw [← hr]; exact h.fpm)))).drew
    clear hrun4 hfa hd2 hg2b hc20 hol hlk hud hrun2
    go_wp2_with fail
    refine wp_region_still_tail 6 (by kernel_rfl) (by kernel_rfl) ?_
    change wpStill _ _ w2.drew (fun a' => wpList _ _ _ _ a' w2.drew) _ _
    generalize w2.drew = W3d at *
    simp only [List.take_succ_cons, List.take_zero, List.drop_succ_cons, List.drop_zero]
    repeat still_step
    refine wpStill_nil ?_
    go_wp2_with fail
    go_end0
    have HT := ht13.trans0 (Turn.of_grown hg4 (fun r hr hl => .inl (by injection hr with hr; rw [← hr]; exact h.fpm)))
    have e : renameDo s.data.toList t.data.toList d = DiskM.setF (DiskM.dropF d s.data.toList) t.data.toList f.abs := by unfold renameDo; rw [HFA.out]
    have hfin : DiskAt w4 (fun j => fp j ∨ ∃ ad, f.a = some ad ∧ j = ad.block) p (renameDo s.data.toList t.data.toList d) := by rw [e]; exact ⟨_, _, hd4⟩
    refine ⟨rfl, _, hfin, ?_, HT.more (fun j hj hq => hq.resolve_right (by omega))⟩
    · rintro j (hj | ⟨ad, ha, rfl⟩)
      · exact .inl hj
      · exact .inl (hfp1 ad ha)
end Go.Proofs.YtopnhplacdbkdaaGreat
