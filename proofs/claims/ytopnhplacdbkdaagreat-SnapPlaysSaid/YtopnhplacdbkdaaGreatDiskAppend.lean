/- The walks of the disk's Append and its closures. Condition: the disk lies behind the pointer; the bytes read as bytes. -/
import Derived.Test.YtopnhplacdbkdaaGreatDiskWrite
import Derived.Test.YtopnhplacdbkdaaGreatDiskStore
import Derived.Deep.RegionHeld3
import Derived.Deep.RegionWith
import Derived.StillTailTactics
import Derived.Shelf.Abstract
namespace Go.Proofs.YtopnhplacdbkdaaGreat
open Go.RowKit DiskM Go.Shelf

set_option maxRecDepth 100000 in
set_option maxHeartbeats 1000000 in
theorem append1_any {w : World} {fp : Nat → Prop} {p : Nat} {d : DS} (h : DiskAt w fp p d) (s : ByteArray) (hs : s.size ≤ maxLen) (a : Option Addr) (n c bb bd : Nat) (bs : List UInt8) (hn : bs.length = n)
    (cb : w.cell? ⟨bb, 0, none⟩ = some (.slice a n c)) (cd : w.cell? ⟨bd, 0, none⟩ = some (.pointer (some ⟨p, 0, none⟩))) :
    Calls Tryz.prog 44 #[.string s, .pointer (some ⟨bb, 0, none⟩), .pointer (some ⟨bd, 0, none⟩)] w fun e w' => e = .returned (.int .i64 (appendAsk d s.data.toList bs : Nat)) ∧ Below w.heap.size w w' := by
  have lb : bb < w.heap.size := block_lt_of_cell cb
  have ld : bd < w.heap.size := block_lt_of_cell cd
  have lp : p < w.heap.size := h.lt p h.fpp
  have cp : w.cell? ⟨p, 1, none⟩ = some (.int .i64 (d.room : Int)) := by obtain ⟨mb, fv, h⟩ := h; exact h.cell.2.1
  have HAT := Lib.hid (fun W hb => h.below hb : ∀ W, Below w.heap.size w W → DiskAt W fp p d)
  have HK := Lib.hid (fun W hb => ⟨(hb.cell (p := ⟨bb, 0, none⟩) lb).trans cb, (hb.cell (p := ⟨bd, 0, none⟩) ld).trans cd, (hb.cell (p := ⟨p, 1, none⟩) lp).trans cp⟩ : ∀ W, Below w.heap.size w W → W.cell? ⟨bb, 0, none⟩ = some (.slice a n c) ∧ W.cell? ⟨bd, 0, none⟩ = some (.pointer (some ⟨p, 0, none⟩)) ∧ W.cell? ⟨p, 1, none⟩ = some (.int .i64 (d.room : Int)))
  have hru := h.ok.room
  have huu := h.ok.used
  unfold appendAsk
  rw [hn]
  by_cases hnm : named s.data.toList = true
  rotate_left
  · have hnm' : named s.data.toList = false := by simpa using hnm
    rw [if_neg hnm]
    clear hnm h
    go_enter Tryz.func44, Tryz.ntmps44
    go_wp2_with fail
    refine (named_any s _ hs).mono ?_
    rintro e w1 ⟨rfl, rfl⟩
    rw [hnm']
    go_wp2_with fail
    go_ret
    exact ⟨rfl, Below.refl _ _⟩
  rw [if_pos hnm]
  have HNM := Lib.hid hnm
  clear hnm h hn
  have hwr : IntKind.i64.wrap ((d.room : Int) - (used d.files : Int)) = (d.room : Int) - (used d.files : Int) := by rw [IntKind.wrap_i64]; omega
  obtain ⟨E, hE, hd⟩ : ∃ E : Nat, (if d.room < n + used d.files then 14 else 0) = E ∧ ((E = 14 ∧ decide (IntKind.i64.wrap ((d.room : Int) - (used d.files : Int)) < (n : Int)) = true) ∨ (E = 0 ∧ decide (IntKind.i64.wrap ((d.room : Int) - (used d.files : Int)) < (n : Int)) = false)) := by
    rw [hwr]
    by_cases hq : d.room < n + used d.files
    · exact ⟨14, by rw [if_pos hq], .inl ⟨rfl, by simp; omega⟩⟩
    · exact ⟨0, by rw [if_neg hq], .inr ⟨rfl, by simp; omega⟩⟩
  rw [hE]
  have HD := Lib.hid hd
  clear hwr hE hd
  go_enter Tryz.func44, Tryz.ntmps44
  go_wp2_with fail
  refine (named_any s _ hs).mono ?_
  rintro e w1 ⟨rfl, rfl⟩
  rw [HNM.out]
  go_wp2_with fail
  have hB0 : Below w.heap.size w w.drew := (Below.refl _ _).drew
  have hB1 : Below w.heap.size w w := Below.refl _ _
  go_region_held3 (fun W => W.cell? ⟨bb, 0, none⟩ = some (.slice a n c) ∧ W.cell? ⟨bd, 0, none⟩ = some (.pointer (some ⟨p, 0, none⟩)) ∧ W.cell? ⟨p, 1, none⟩ = some (.int .i64 (d.room : Int)))
    (first
      | go_keep
      | exact HK.out _ (by assumption))
    (first
      | (go_at_call 31; ((with_reducible refine (used_any (fp := fp) (p := p) (d := d) ?_).mono ?_); (exact HAT.out _ (by assumption)); rintro e w5 ⟨rfl, hb5⟩; have hB5 : Below w.heap.size w w5 := Below.next0 (by assumption) hb5)))
  generalize IntKind.i64.wrap ((d.room : Int) - (used d.files : Int)) = X at *
  rcases HD.out with ⟨rfl, hd⟩ | ⟨rfl, hd⟩
  · have hd' : X < (n : Int) := of_decide_eq_true hd
    clear hd HD
    go_wp2_with fail
    go_ret
    exact ⟨rfl, hB5⟩
  · have hd' : ¬ (X < (n : Int)) := of_decide_eq_false hd
    clear hd HD
    go_wp2_with fail
    go_ret
    exact ⟨rfl, hB5⟩

/-- what a closure that does the write hands back -/
def DidIs (w : World) (fp : Nat → Prop) (p : Nat) (d : DS) (e : Ending) (w' : World) : Prop :=
  e = .returned (.tuple #[]) ∧ ∃ fp', DiskAt w' fp' p d ∧ (∀ k, fp' k → fp k ∨ w.heap.size ≤ k) ∧ Turn fp w w'

set_option maxRecDepth 100000 in
set_option maxHeartbeats 1000000 in
theorem append2_any {w : World} {fp : Nat → Prop} {p : Nat} {d : DS} (h : DiskAt w fp p d) (s : ByteArray) (hs : s.size ≤ 16) (a : Option Addr) (n c bb bn bd : Nat) (bs : List UInt8) (hn : bs.length = n) (hrd : Rd w w.heap.size a bs)
    (hfit : n + used d.files ≤ 16777216) (hfew : d.files.length < 1000000)
    (cb : w.cell? ⟨bb, 0, none⟩ = some (.slice a n c)) (cn : w.cell? ⟨bn, 0, none⟩ = some (.string s)) (cd : w.cell? ⟨bd, 0, none⟩ = some (.pointer (some ⟨p, 0, none⟩))) (nn : ¬ fp bn) (nd : ¬ fp bd) :
    Calls Tryz.prog 45 #[.pointer (some ⟨bd, 0, none⟩), .pointer (some ⟨bn, 0, none⟩), .pointer (some ⟨bb, 0, none⟩)] w (DidIs w fp p (appendDo s.data.toList bs d)) := by
  obtain ⟨mb, fv, h⟩ := h
  have lb : bb < w.heap.size := block_lt_of_cell cb
  have ln : bn < w.heap.size := block_lt_of_cell cn
  have ld : bd < w.heap.size := block_lt_of_cell cd
  have lp : p < w.heap.size := h.lt p h.fpp
  have hcm := h.cell.1
  have HK := Lib.hid (fun W hb => ⟨(hb.cell (p := ⟨bd, 0, none⟩) ld).trans cd, (hb.cell (p := ⟨bn, 0, none⟩) ln).trans cn, (hb.cell (p := ⟨p, 0, none⟩) lp).trans hcm, (h.below hb).look_plain s (by unfold maxLen; omega)⟩ : ∀ W, Below w.heap.size w W →
    W.cell? ⟨bd, 0, none⟩ = some (.pointer (some ⟨p, 0, none⟩)) ∧ W.cell? ⟨bn, 0, none⟩ = some (.string s) ∧ W.cell? ⟨p, 0, none⟩ = some (.map (some mb)) ∧
    (Instr.lookup 44 (.map (some mb)) (.string s) false).run Tryz.prog W = .ok (.agg #[.slice (getF fv s.data.toList).a (getF fv s.data.toList).n (getF fv s.data.toList).c, .int .i64 ((getF fv s.data.toList).sure : Int)]) W)
  have hB0 : Below w.heap.size w w := Below.refl _ _
  go_enter Tryz.func45, Tryz.ntmps45
  go_wp2_with fail
  go_region_held3 (fun W => W.cell? ⟨bd, 0, none⟩ = some (.pointer (some ⟨p, 0, none⟩)) ∧ W.cell? ⟨bn, 0, none⟩ = some (.string s) ∧ W.cell? ⟨p, 0, none⟩ = some (.map (some mb)) ∧
      (Instr.lookup 44 (.map (some mb)) (.string s) false).run Tryz.prog W = .ok (.agg #[.slice (getF fv s.data.toList).a (getF fv s.data.toList).n (getF fv s.data.toList).c, .int .i64 ((getF fv s.data.toList).sure : Int)]) W)
    (first
      | exact HK.out _ hB0
      | exact HK.out _ hB0.drew
      | exact HK.out _ (hB0.alloc (Nat.le_refl _) _)
      | exact HK.out _ (hB0.alloc (Nat.le_refl _) _).drew)
    (first | fail)
  all_goals
    have hb1 : Below w.heap.size w (w.alloc (.cells #[.slice (getF fv s.data.toList).a (getF fv s.data.toList).n (getF fv s.data.toList).c, .int .i64 ((getF fv s.data.toList).sure : Int)] 70)).drew := (hB0.alloc (Nat.le_refl _) _).drew
    have hc10 : (w.alloc (.cells #[.slice (getF fv s.data.toList).a (getF fv s.data.toList).n (getF fv s.data.toList).c, .int .i64 ((getF fv s.data.toList).sure : Int)] 70)).drew.heap[w.heap.size]? = some (.cells #[.slice (getF fv s.data.toList).a (getF fv s.data.toList).n (getF fv s.data.toList).c, .int .i64 ((getF fv s.data.toList).sure : Int)] 70 (0, 0)) := heap_alloc_new w _
    have hs1 : w.heap.size < (w.alloc (.cells #[.slice (getF fv s.data.toList).a (getF fv s.data.toList).n (getF fv s.data.toList).c, .int .i64 ((getF fv s.data.toList).sure : Int)] 70)).drew.heap.size := by simp
    generalize (w.alloc (.cells #[.slice (getF fv s.data.toList).a (getF fv s.data.toList).n (getF fv s.data.toList).c, .int .i64 ((getF fv s.data.toList).sure : Int)] 70)).drew = w1 at *
    have hd1 := h.below hb1
    have hr1 := (hrd.below hb1)
    have hf1 := hd1.fil s.data.toList
    have hfp1 := hd1.filfp s.data.toList
    have HF := Lib.hid (rfl : getF fv s.data.toList = getF fv s.data.toList)
    obtain ⟨f, hfe⟩ : ∃ f, getF fv s.data.toList = f := ⟨_, rfl⟩
    have HFE := Lib.hid hfe
    have HOLD := Lib.hid (hd1.old s.data.toList)
    rw [hfe] at hf1 hfp1 hc10 ⊢
    clear hfe HF
    have hnl := hf1.1
    have hold : f.n ≤ used d.files := by
      have h1 := old_used h.ok s.data.toList
      rw [HOLD.out, HFE.out] at h1
      have h2 : f.bs.length ≤ used d.files := h1
      omega
    obtain ⟨a2, c2, w2, hrun2, hf2, hg2, hat2⟩ := run_append_fil w1 30 f.a f.n f.c f.bs hf1 w.heap.size a n c bs hr1 hn (by omega)
    have hlt : ∀ ad, f.a = some ad → ad.block < w.heap.size := fun ad ha => h.lt _ (hfp1 ad ha)
    have hne2 : ∀ j, j < w1.heap.size → (∀ ad, f.a = some ad → ad.block ≠ j) → w2.heap[j]? = w1.heap[j]? := fun j hj hq => hg2.block j hj (by
      intro e
      cases ha : f.a with
      | none => rw [ha] at e; cases e
      | some ad => rw [ha] at e; simp only [Option.map_some, Option.some.injEq] at e; exact hq ad ha e.symm)
    have hd2 := hd1.grown s.data.toList hg2 (by rw [HFE.out])
    have hc20 := (hne2 w.heap.size hs1 (fun ad ha => by have := hlt ad ha; omega)).trans hc10
    have hc1a := cell_of_row w1 w.heap.size 0 _ _ _ hc10
    have hc1b : w1.cell? ⟨bb, 0, none⟩ = some (.slice a n c) := (hb1.cell (p := ⟨bb, 0, none⟩) lb).trans cb
    have hc2a := cell_of_row w2 w.heap.size 0 _ _ _ hc20
    have hfz2 := frozen_of_row w2 w.heap.size 0 _ _ hc20
    go_wp2_with (at_builtin; refine wpList_append_run rfl (.tmp 11) (.tmp 12) 30 30 rfl _ _ rfl rfl _ _ hrun2 ?_; clear hrun2)
    have hcd2 : w2.cell? ⟨bd, 0, none⟩ = some (.pointer (some ⟨p, 0, none⟩)) := (World.cell?_of_block (hne2 bd (by omega) (fun ad ha e => nd (by rw [← e]; exact hfp1 ad ha)))).trans ((hb1.cell (p := ⟨bd, 0, none⟩) ld).trans cd)
    have hcn2 : w2.cell? ⟨bn, 0, none⟩ = some (.string s) := (World.cell?_of_block (hne2 bn (by omega) (fun ad ha e => nn (by rw [← e]; exact hfp1 ad ha)))).trans ((hb1.cell (p := ⟨bn, 0, none⟩) ln).trans cn)
    have hcp2 : w2.cell? ⟨p, 0, none⟩ = some (.map (some mb)) := by rw [cell_of_row w2 p 0 _ _ _ hd2.cells]; rfl
    have hs2 := hg2.size
    obtain ⟨W3, hW3⟩ : ∃ W3, W3 = w2.setCell ⟨w.heap.size, 0, none⟩ (.slice a2 (f.n + n) c2) := ⟨_, rfl⟩
    rw [← hW3]
    have hoth : ∀ j, j ≠ w.heap.size → W3.heap[j]? = w2.heap[j]? := fun j hj => by rw [hW3]; exact Below.heap_setCell _ _ _ _ hj
    have hcd3 := (World.cell?_of_block (a := ⟨bd, 0, none⟩) (hoth bd (by omega))).trans hcd2
    have hcn3 := (World.cell?_of_block (a := ⟨bn, 0, none⟩) (hoth bn (by omega))).trans hcn2
    have hcp3 := (World.cell?_of_block (a := ⟨p, 0, none⟩) (hoth p (by omega))).trans hcp2
    have hb30 : W3.heap[w.heap.size]? = some (.cells #[.slice a2 (f.n + n) c2, .int .i64 (f.sure : Int)] 70 (0, 0)) := by
      rw [hW3]
      have := heap_setCell_same w2 w.heap.size 0 _ _ (.slice a2 (f.n + n) c2) hc20
      exact this
    have hc3a := cell_of_row W3 w.heap.size 0 _ _ _ hb30
    have hc3b := cell_of_row W3 w.heap.size 1 _ _ _ hb30
    have hsz3 : W3.heap.size = w2.heap.size := by rw [hW3]; simp [World.setCell]
    have ha2 : ∀ ad, a2 = some ad → fp ad.block ∨ ad.block = w1.heap.size := fun ad ha => by
      rcases hat2 with e | e
      · rw [ha] at e
        cases hf : f.a with
        | none => rw [hf] at e; cases e
        | some a0 => rw [hf] at e; simp only [Option.map_some, Option.some.injEq] at e; exact .inl (by rw [e]; exact hfp1 a0 hf)
      · rw [ha] at e; simp only [Option.map_some, Option.some.injEq] at e; exact .inr e
    have hfil3 : Fil W3 a2 (f.n + n) c2 (f.bs ++ bs) := hf2.keep fun ad ha => hoth _ (by
      rcases ha2 ad ha with e | e
      · have := h.lt _ e; omega
      · omega)
    have hd3 : DiskBut W3 fp p mb fv d s.data.toList := hd2.keep (hoth _ (by omega)) (hoth _ (by have := h.lt _ h.fpm; omega)) (fun x hx hxk ad ha => hoth _ (by have := h.lt _ ((hd2.rows x hx hxk).2 ad ha); omega)) (by omega)
    have hap3 : ∀ x ∈ fv, x.1 ≠ s.data.toList → ∀ ax ad, x.2.a = some ax → a2 = some ad → ax.block ≠ ad.block := by
      intro x hx hxk ax ad hax had
      have hxl := h.lt _ ((h.rows x hx).2 ax hax)
      rcases hat2 with e | e
      · rw [had] at e
        cases hf : f.a with
        | none => rw [hf] at e; cases e
        | some a0 =>
          rw [hf] at e
          simp only [Option.map_some, Option.some.injEq] at e
          rw [e]
          have hso : (DiskM.look s.data.toList fv).isSome = true := by
            cases hl : DiskM.look s.data.toList fv with
            | none =>
              have := HFE.out
              unfold getF at this
              rw [hl] at this
              rw [← this] at hf; cases hf
            | some v => rfl
          exact h.apart x hx _ (getF_mem hso) hxk ax a0 hax (by rw [HFE.out]; exact hf)
      · rw [had] at e; simp only [Option.map_some, Option.some.injEq] at e; omega
    have hfa : DiskM.old d s.data.toList = f.abs := by rw [HOLD.out, HFE.out]
    obtain ⟨w4, hrun4, hd4, hg4⟩ := DiskBut.store (w := W3.drew) (hd3.keep rfl rfl (fun _ _ _ _ _ => rfl) (Nat.le_refl _)) s rfl hs ⟨a2, f.n + n, c2, f.bs ++ bs, f.sure⟩ (hfil3.keep fun _ _ => rfl) hap3
      (by have := old_le h.ok s.data.toList; rw [hfa] at this; have h2 : f.sure ≤ f.bs.length := this; show f.sure ≤ (f.bs ++ bs).length; rw [List.length_append]; omega)
      (by rw [hfa]; show (f.bs ++ bs).length + used d.files ≤ 16777216 + f.bs.length; rw [List.length_append]; omega)
      (Nat.le_trans (put_length _ _ _) (by omega))
    have HFA := Lib.hid hfa
    have hrun4' : (Instr.mapUpdate 44 (.map (some mb)) (.string s) (.agg #[.slice a2 (f.n + n) c2, .int .i64 (f.sure : Int)])).run Tryz.prog W3.drew = .ok () w4 := hrun4
    clear hrun4 hfa hd3 hfil3
    have hcd4 : W3.drew.cell? ⟨bd, 0, none⟩ = some (.pointer (some ⟨p, 0, none⟩)) := hcd3
    have hcn4 : W3.drew.cell? ⟨bn, 0, none⟩ = some (.string s) := hcn3
    have hcp4 : W3.drew.cell? ⟨p, 0, none⟩ = some (.map (some mb)) := hcp3
    have hc4a : W3.drew.cell? ⟨w.heap.size, 0, none⟩ = some (.slice a2 (f.n + n) c2) := hc3a
    have hc4b : W3.drew.cell? ⟨w.heap.size, 1, none⟩ = some (.int .i64 (f.sure : Int)) := hc3b
    have ht23 : Turn (fun j => fp j ∨ w.heap.size ≤ j) w2 W3.drew := by rw [hW3]; exact (Turn.setCell _ w2 (p := ⟨w.heap.size, 0, none⟩) (.inr (Nat.le_refl _)) _).drew
    clear hW3 hcd3 hcn3 hcp3 hc3a hc3b hb30 hoth
    refine wp_region_still_tail 6 (by kernel_rfl) (by kernel_rfl) ?_
    change wpStill _ _ W3.drew (fun a' => wpList _ _ _ _ a' W3.drew) _ _
    generalize W3.drew = W3d at *
    simp only [List.take_succ_cons, List.take_zero, List.drop_succ_cons, List.drop_zero]
    repeat still_step
    refine wpStill_nil ?_
    go_wp2_with fail
    go_end0
    have HT := (((Turn.of_below hb1 (fun j => fp j ∨ w.heap.size ≤ j)).trans0 (Turn.of_grown hg2 (fun r hr hl => .inl (by
      cases hf : f.a with
      | none => rw [hf] at hr; cases hr
      | some a0 => rw [hf] at hr; simp only [Option.map_some, Option.some.injEq] at hr; rw [← hr]; exact hfp1 a0 hf)))).trans0 ht23).trans0 (Turn.of_grown hg4 (fun r hr hl => .inl (by injection hr with hr; rw [← hr]; exact h.fpm)))
    have e : appendDo s.data.toList bs d = DiskM.setF d s.data.toList (FileV.abs ⟨a2, f.n + n, c2, f.bs ++ bs, f.sure⟩) := by unfold appendDo; rw [HFA.out]; rfl
    have hfin : DiskAt w4 (fun j => fp j ∨ ∃ ad, a2 = some ad ∧ j = ad.block) p (appendDo s.data.toList bs d) := by rw [e]; exact ⟨_, _, hd4⟩
    refine ⟨rfl, _, hfin, ?_, HT.more (fun j hj hq => hq.resolve_right (by omega))⟩
    · rintro j (hj | ⟨ad, ha, rfl⟩)
      · exact .inl hj
      · rcases ha2 ad ha with e | e
        · exact .inl e
        · exact .inr (by omega)

theorem named_size {s : ByteArray} (h : named s.data.toList = true) : s.size ≤ 16 := by
  unfold named at h
  simp only [Bool.and_eq_true, decide_eq_true_eq] at h
  have := h.2
  simpa using this
theorem WriteIs.from {w W : World} {fp : Nat → Prop} {p : Nat} {r : Nat × DS} {e : Ending} {w' : World} (hb : Below w.heap.size w W) (h : WriteIs W fp p r e w') : WriteIs w fp p r e w' := by
  obtain ⟨h1, fp', h2, h3, h4⟩ := h
  have := hb.size
  exact ⟨h1, fp', h2, fun k hk => (h3 k hk).imp id fun h => by omega, (Turn.of_below hb fp).trans0 h4⟩
theorem box_after {w W : World} {fp : Nat → Prop} {b : Nat} {v : Value} (ht : Turn fp w W) (h : w.cell? ⟨b, 0, none⟩ = some v) (hn : ¬ fp b) : W.cell? ⟨b, 0, none⟩ = some v := (ht.cell (p := ⟨b, 0, none⟩) (block_lt_of_cell h) hn).trans h

set_option maxRecDepth 100000 in
set_option maxHeartbeats 1000000 in
theorem append_any {w : World} {fp : Nat → Prop} {p : Nat} {d : DS} (h : DiskAt w fp p d) (s : ByteArray) (hs : s.size ≤ maxLen) (a : Option Addr) (n c : Nat) (bs : List UInt8) (hn : bs.length = n) (hrd : Rd w w.heap.size a bs) (hna : bs = [] ∨ ∀ x, a = some x → ¬ fp x.block) (hfew : d.files.length < 1000000) :
    Calls Tryz.prog 12 #[.pointer (some ⟨p, 0, none⟩), .string s, .slice a n c] w (WriteIs w fp p (append d s.data.toList bs)) := by
  have hb0 : Below w.heap.size w (((w.alloc (.cells #[.pointer (some ⟨p, 0, none⟩)] 25)).alloc (.cells #[.string s] 9)).alloc (.cells #[.slice a n c] 30)) := (((Below.refl _ _).alloc (Nat.le_refl _) _).alloc (by simp) _).alloc (by simp; omega) _
  have hcd : (((w.alloc (.cells #[.pointer (some ⟨p, 0, none⟩)] 25)).alloc (.cells #[.string s] 9)).alloc (.cells #[.slice a n c] 30)).cell? ⟨w.heap.size, 0, none⟩ = some (.pointer (some ⟨p, 0, none⟩)) := by
    rw [World.cell?_alloc_lt _ _ _ (by simp; omega), World.cell?_alloc_lt _ _ _ (by simp), cell_of_row _ _ _ _ _ _ (heap_alloc_new _ _)]; rfl
  have hcn : (((w.alloc (.cells #[.pointer (some ⟨p, 0, none⟩)] 25)).alloc (.cells #[.string s] 9)).alloc (.cells #[.slice a n c] 30)).cell? ⟨w.heap.size + 1, 0, none⟩ = some (.string s) := by
    rw [World.cell?_alloc_lt _ _ _ (by simp), ← World.size_alloc w (.cells #[.pointer (some ⟨p, 0, none⟩)] 25), cell_of_row _ _ _ _ _ _ (heap_alloc_new _ _)]; rfl
  have hcb : (((w.alloc (.cells #[.pointer (some ⟨p, 0, none⟩)] 25)).alloc (.cells #[.string s] 9)).alloc (.cells #[.slice a n c] 30)).cell? ⟨w.heap.size + 1 + 1, 0, none⟩ = some (.slice a n c) := by
    rw [show w.heap.size + 1 + 1 = ((w.alloc (.cells #[.pointer (some ⟨p, 0, none⟩)] 25)).alloc (.cells #[.string s] 9)).heap.size by simp, cell_of_row _ _ _ _ _ _ (heap_alloc_new _ _)]; rfl
  have hsz : (((w.alloc (.cells #[.pointer (some ⟨p, 0, none⟩)] 25)).alloc (.cells #[.string s] 9)).alloc (.cells #[.slice a n c] 30)).heap.size = w.heap.size + 3 := by simp
  have hW : Calls Tryz.prog 46 #[.pointer (some ⟨p, 0, none⟩), .string s, .func (.func 44) #[] #[.pointer (some ⟨w.heap.size + 1 + 1, 0, none⟩), .pointer (some ⟨w.heap.size, 0, none⟩)], .func (.func 45) #[] #[.pointer (some ⟨w.heap.size, 0, none⟩), .pointer (some ⟨w.heap.size + 1, 0, none⟩), .pointer (some ⟨w.heap.size + 1 + 1, 0, none⟩)], .func (.func 45) #[] #[.pointer (some ⟨w.heap.size, 0, none⟩), .pointer (some ⟨w.heap.size + 1, 0, none⟩), .pointer (some ⟨w.heap.size + 1 + 1, 0, none⟩)]]
      (((w.alloc (.cells #[.pointer (some ⟨p, 0, none⟩)] 25)).alloc (.cells #[.string s] 9)).alloc (.cells #[.slice a n c] 30)) (WriteIs w fp p (append d s.data.toList bs)) := by
    have hlt := h.lt
    have hD0 := h.below hb0
    have hok := h.ok
    have hr0 := hrd.step hb0
    have H0 := Lib.hid hb0
    generalize (((w.alloc (.cells #[.pointer (some ⟨p, 0, none⟩)] 25)).alloc (.cells #[.string s] 9)).alloc (.cells #[.slice a n c] 30)) = W0 at *
    have does : appendAsk d s.data.toList bs = 0 → Does W0 fp p d (appendDo s.data.toList bs) 45 #[.pointer (some ⟨w.heap.size, 0, none⟩), .pointer (some ⟨w.heap.size + 1, 0, none⟩), .pointer (some ⟨w.heap.size + 1 + 1, 0, none⟩)] := by
      intro hask W hT hD
      unfold appendAsk at hask
      split at hask
      · next hnm =>
        split at hask
        · cases hask
        · next hroom =>
          have hg := gone_files d
          have hro := hok.room
          exact append2_any hD s (named_size hnm) a n c (w.heap.size + 1 + 1) (w.heap.size + 1) w.heap.size bs hn ((rd_or hr0 hT (Nat.le_refl _) hna).more hT.size) (by rw [hg.1, ← hn]; omega) (by rw [hg.1]; exact hfew)
            (box_after hT hcb (fun e => by have := hlt _ e; omega)) (box_after hT hcn (fun e => by have := hlt _ e; omega)) (box_after hT hcd (fun e => by have := hlt _ e; omega)) (fun e => by have := hlt _ e; omega) (fun e => by have := hlt _ e; omega)
      · cases hask
    have does' : appendAsk d s.data.toList bs = 0 → Does W0 fp p d (appendDo s.data.toList bs) 45 (#[] ++ #[.pointer (some ⟨w.heap.size, 0, none⟩), .pointer (some ⟨w.heap.size + 1, 0, none⟩), .pointer (some ⟨w.heap.size + 1 + 1, 0, none⟩)]) := by
      rw [Array.empty_append]; exact does
    have asks : d.down = false → Calls Tryz.prog 44 ((#[] : Array Value).push (.string s) ++ #[.pointer (some ⟨w.heap.size + 1 + 1, 0, none⟩), .pointer (some ⟨w.heap.size, 0, none⟩)]) W0 fun e w' => e = .returned (.int .i64 (appendAsk d s.data.toList bs : Nat)) ∧ Below W0.heap.size W0 w' := by
      have e : ((#[] : Array Value).push (.string s) ++ #[.pointer (some ⟨w.heap.size + 1 + 1, 0, none⟩), .pointer (some ⟨w.heap.size, 0, none⟩)]) = #[.string s, .pointer (some ⟨w.heap.size + 1 + 1, 0, none⟩), .pointer (some ⟨w.heap.size, 0, none⟩)] := rfl
      rw [e]
      exact fun _ => append1_any hD0 s hs a n c _ _ bs hn hcb hcd
    refine (write_any hD0 s 44 #[] _ 45 #[] _ 45 #[] _ (appendAsk d s.data.toList bs) (appendDo s.data.toList bs) (appendDo s.data.toList bs)
      (enters_of Tryz.func44 (by kernel_rfl) rfl) (enters_of Tryz.func45 (by kernel_rfl) rfl) (enters_of Tryz.func45 (by kernel_rfl) rfl)
      asks does' does').mono ?_
    intro e w' hw
    exact hw.from H0.out
  have HW := Lib.hid hW
  clear hW hb0 hcd hcn hcb hsz hrd hna h
  go_enter Tryz.func12, Tryz.ntmps12
  go_wp2_with fail
  refine HW.out.mono ?_
  rintro e w1 ⟨rfl, hw⟩
  go_wp2_with fail
  go_ret
  exact ⟨rfl, hw⟩
end Go.Proofs.YtopnhplacdbkdaaGreat
