/- The walks of the disk's Sync, Rename, Remove and their closures. Condition: the disk lies behind the pointer. -/
import Derived.Test.YtopnhplacdbkdaaGreatDiskAppend
namespace Go.Proofs.YtopnhplacdbkdaaGreat
open Go.RowKit DiskM Go.Shelf

theorem name_le {d : DS} (h : d.Ok) {k : Nm} (hk : (DiskM.look k d.files).isSome = true) : k.length ≤ 16 := by
  obtain ⟨v, hv⟩ := Option.isSome_iff_exists.1 hk
  exact h.name _ (look_mem hv)
theorem has_yes {d : DS} {k : Nm} (h : DiskM.has d k = 0) : (DiskM.look k d.files).isSome = true := by
  unfold DiskM.has at h
  split at h
  · assumption
  · cases h

set_option maxRecDepth 100000 in
set_option maxHeartbeats 1000000 in
theorem sync1_any {w : World} {fp : Nat → Prop} {p : Nat} {d : DS} (h : DiskAt w fp p d) (s : ByteArray) (hso : (DiskM.look s.data.toList d.files).isSome = true) (bn bd : Nat)
    (cn : w.cell? ⟨bn, 0, none⟩ = some (.string s)) (cd : w.cell? ⟨bd, 0, none⟩ = some (.pointer (some ⟨p, 0, none⟩))) :
    Calls Tryz.prog 91 #[.pointer (some ⟨bd, 0, none⟩), .pointer (some ⟨bn, 0, none⟩)] w (DidIs w fp p (syncDo s.data.toList d)) := by
  have hs : s.size ≤ 16 := by have := name_le h.ok hso; simpa using this
  obtain ⟨mb, fv, h⟩ := h
  have ln : bn < w.heap.size := block_lt_of_cell cn
  have ld : bd < w.heap.size := block_lt_of_cell cd
  have lp : p < w.heap.size := h.lt p h.fpp
  have hcm := h.cell.1
  have HK := Lib.hid (fun W hb => ⟨(hb.cell (p := ⟨bd, 0, none⟩) ld).trans cd, (hb.cell (p := ⟨bn, 0, none⟩) ln).trans cn, (hb.cell (p := ⟨p, 0, none⟩) lp).trans hcm, (h.below hb).look_plain s (by unfold maxLen; omega)⟩ : ∀ W, Below w.heap.size w W →
    W.cell? ⟨bd, 0, none⟩ = some (.pointer (some ⟨p, 0, none⟩)) ∧ W.cell? ⟨bn, 0, none⟩ = some (.string s) ∧ W.cell? ⟨p, 0, none⟩ = some (.map (some mb)) ∧
    (Instr.lookup 44 (.map (some mb)) (.string s) false).run Tryz.prog W = .ok (.agg #[.slice (getF fv s.data.toList).a (getF fv s.data.toList).n (getF fv s.data.toList).c, .int .i64 ((getF fv s.data.toList).sure : Int)]) W)
  have hB0 : Below w.heap.size w w := Below.refl _ _
  have HSO := Lib.hid hso
  clear hso
  go_enter Tryz.func91, Tryz.ntmps91
  go_wp2_with fail
  go_region_held3 (fun W => W.cell? ⟨bd, 0, none⟩ = some (.pointer (some ⟨p, 0, none⟩)) ∧ W.cell? ⟨bn, 0, none⟩ = some (.string s) ∧ W.cell? ⟨p, 0, none⟩ = some (.map (some mb)) ∧
      (Instr.lookup 44 (.map (some mb)) (.string s) false).run Tryz.prog W = .ok (.agg #[.slice (getF fv s.data.toList).a (getF fv s.data.toList).n (getF fv s.data.toList).c, .int .i64 ((getF fv s.data.toList).sure : Int)]) W)
    (first
      | exact HK.out _ hB0
      | exact HK.out _ hB0.drew
      | exact HK.out _ (hB0.alloc (Nat.le_refl _) _)
      | exact HK.out _ (hB0.alloc (Nat.le_refl _) _).drew)
    (first | fail)
  all_goals
    have hb1 : Below w.heap.size w (w.alloc (.cells #[.slice (getF fv s.data.toList).a (getF fv s.data.toList).n (getF fv s.data.toList).c, .int .i64 ((getF fv s.data.toList).sure : Int)] 70)).drew := (hB0.alloc (Nat.le_refl _) _).drew
    have hc10 : (w.alloc (.cells #[.slice (getF fv s.data.toList).a (getF fv s.data.toList).n (getF fv s.data.toList).c, .int .i64 ((getF fv s.data.toList).sure : Int)] 70)).drew.heap[w.heap.size]? = some (.cells #[.slice (getF fv s.data.toList).a (getF fv s.data.toList).n (getF fv s.data.toList).c, .int .i64 ((getF fv s.data.toList).sure : Int)] 70 (0, 0)) := heap_alloc_new w _
    have hs1 : w.heap.size < (w.alloc (.cells #[.slice (getF fv s.data.toList).a (getF fv s.data.toList).n (getF fv s.data.toList).c, .int .i64 ((getF fv s.data.toList).sure : Int)] 70)).drew.heap.size := by simp
    generalize (w.alloc (.cells #[.slice (getF fv s.data.toList).a (getF fv s.data.toList).n (getF fv s.data.toList).c, .int .i64 ((getF fv s.data.toList).sure : Int)] 70)).drew = w1 at *
    have hd1 := h.below hb1
    have hf1 := hd1.fil s.data.toList
    have hfp1 := hd1.filfp s.data.toList
    obtain ⟨f, hfe⟩ : ∃ f, getF fv s.data.toList = f := ⟨_, rfl⟩
    have HFE := Lib.hid hfe
    have HOLD := Lib.hid (hd1.old s.data.toList)
    rw [hfe] at hf1 hfp1 hc10 ⊢
    clear hfe
    have hnl := hf1.1
    have hc1a := cell_of_row w1 w.heap.size 0 _ _ _ hc10
    have hc1b := cell_of_row w1 w.heap.size 1 _ _ _ hc10
    have hfz1 := frozen_of_row w1 w.heap.size 1 _ _ hc10
    go_wp2_with fail
    obtain ⟨W3, hW3⟩ : ∃ W3, W3 = w1.setCell ⟨w.heap.size, 1, none⟩ (.int .i64 (f.n : Nat)) := ⟨_, rfl⟩
    rw [← hW3]
    have hoth : ∀ j, j ≠ w.heap.size → W3.heap[j]? = w1.heap[j]? := fun j hj => by rw [hW3]; exact Below.heap_setCell _ _ _ _ hj
    have hcd4 : W3.drew.cell? ⟨bd, 0, none⟩ = some (.pointer (some ⟨p, 0, none⟩)) := (World.cell?_of_block (a := ⟨bd, 0, none⟩) (hoth bd (by omega))).trans (HK.out w1 hb1).1
    have hcn4 : W3.drew.cell? ⟨bn, 0, none⟩ = some (.string s) := (World.cell?_of_block (a := ⟨bn, 0, none⟩) (hoth bn (by omega))).trans (HK.out w1 hb1).2.1
    have hcp4 : W3.drew.cell? ⟨p, 0, none⟩ = some (.map (some mb)) := (World.cell?_of_block (a := ⟨p, 0, none⟩) (hoth p (by omega))).trans (HK.out w1 hb1).2.2.1
    have hb30 : W3.heap[w.heap.size]? = some (.cells #[.slice f.a f.n f.c, .int .i64 (f.n : Nat)] 70 (0, 0)) := by
      rw [hW3]
      have := heap_setCell_same w1 w.heap.size 1 _ _ (.int .i64 (f.n : Nat)) hc10
      exact this
    have hc4a : W3.drew.cell? ⟨w.heap.size, 0, none⟩ = some (.slice f.a f.n f.c) := cell_of_row W3 w.heap.size 0 _ _ _ hb30
    have hc4b : W3.drew.cell? ⟨w.heap.size, 1, none⟩ = some (.int .i64 (f.n : Nat)) := cell_of_row W3 w.heap.size 1 _ _ _ hb30
    have hsz3 : W3.heap.size = w1.heap.size := by rw [hW3]; simp [World.setCell]
    have hd3 : DiskRaw W3.drew fp p mb fv d := hd1.keep (fun j hj => hoth _ (by have := h.lt _ hj; omega)) (by show w1.heap.size ≤ W3.heap.size; omega)
    have hfa : DiskM.old d s.data.toList = f.abs := by rw [HOLD.out, HFE.out]
    have HFA := Lib.hid hfa
    have hap3 : ∀ x ∈ fv, x.1 ≠ s.data.toList → ∀ ax ad, x.2.a = some ax → f.a = some ad → ax.block ≠ ad.block := by
      intro x hx hxk ax ad hax had
      have hso : (DiskM.look s.data.toList fv).isSome = true := by rw [← h.isSome]; exact HSO.out
      exact h.apart x hx _ (getF_mem hso) hxk ax ad hax (by rw [HFE.out]; exact had)
    obtain ⟨w4, hrun4, hd4, hg4⟩ := DiskBut.store (hd3.but s.data.toList) s rfl hs ⟨f.a, f.n, f.c, f.bs, f.n⟩ (hf1.keep fun ad ha => hoth _ (by have := h.lt _ (hfp1 ad ha); omega)) hap3
      (by show f.n ≤ f.bs.length; omega) (by rw [hfa]; have := h.ok.used; show f.bs.length + used d.files ≤ 16777216 + f.bs.length; omega)
      (by rw [put_length_some h.ok.rising.apart HSO.out]; exact h.ok.few)
    have hrun4' : (Instr.mapUpdate 44 (.map (some mb)) (.string s) (.agg #[.slice f.a f.n f.c, .int .i64 (f.n : Nat)])).run Tryz.prog W3.drew = .ok () w4 := hrun4
    have ht13 : Turn (fun j => fp j ∨ w.heap.size ≤ j) w1 W3.drew := by rw [hW3]; exact (Turn.setCell _ w1 (p := ⟨w.heap.size, 1, none⟩) (.inr (Nat.le_refl _)) _).drew
    clear hW3 hrun4 hfa hd3 hoth hb30
    refine wp_region_still_tail 6 (by kernel_rfl) (by kernel_rfl) ?_
    change wpStill _ _ W3.drew (fun a' => wpList _ _ _ _ a' W3.drew) _ _
    generalize W3.drew = W3d at *
    simp only [List.take_succ_cons, List.take_zero, List.drop_succ_cons, List.drop_zero]
    repeat still_step
    refine wpStill_nil ?_
    go_wp2_with fail
    go_end0
    have HT := ((Turn.of_below hb1 (fun j => fp j ∨ w.heap.size ≤ j)).trans0 ht13).trans0 (Turn.of_grown hg4 (fun r hr hl => .inl (by injection hr with hr; rw [← hr]; exact h.fpm)))
    have e : syncDo s.data.toList d = DiskM.setF d s.data.toList (FileV.abs ⟨f.a, f.n, f.c, f.bs, f.n⟩) := by unfold syncDo; rw [HFA.out]; show DiskM.setF d s.data.toList (f.bs, f.bs.length) = _; rw [hnl]; rfl
    have hfin : DiskAt w4 (fun j => fp j ∨ ∃ ad, f.a = some ad ∧ j = ad.block) p (syncDo s.data.toList d) := by rw [e]; exact ⟨_, _, hd4⟩
    refine ⟨rfl, _, hfin, ?_, HT.more (fun j hj hq => hq.resolve_right (by omega))⟩
    · rintro j (hj | ⟨ad, ha, rfl⟩)
      · exact .inl hj
      · exact .inl (hfp1 ad ha)
end Go.Proofs.YtopnhplacdbkdaaGreat
