/- The walks of the disk's Sync, Rename, Remove. Condition: the disk lies behind the pointer. -/
import Derived.Test.YtopnhplacdbkdaaGreatDiskRename
namespace Go.Proofs.YtopnhplacdbkdaaGreat
open Go.RowKit DiskM Go.Shelf

theorem nothing_any (w : World) : Calls Tryz.prog 79 #[] w fun e w' => e = .returned (.tuple #[]) ∧ w = w' := by
  go_enter Tryz.func79, Tryz.ntmps79
  go_wp2_with fail
  go_end0
  exact ⟨rfl, rfl⟩
theorem does_nothing {w : World} {fp : Nat → Prop} {p : Nat} {d : DS} : Does w fp p d id 79 #[] := by
  intro W hT hD
  refine (nothing_any W).mono ?_
  rintro e w' ⟨rfl, rfl⟩
  exact ⟨rfl, fp, hD, fun _ h => .inl h, Turn.refl _ _⟩
theorem gone_look (d : DS) (k : Nm) : DiskM.look k (gone d).files = DiskM.look k d.files := by rw [(gone_files d).1]

set_option maxRecDepth 100000 in
set_option maxHeartbeats 1000000 in
theorem remove1_any {w : World} {fp : Nat → Prop} {p : Nat} {d : DS} (h : DiskAt w fp p d) (s : ByteArray) (hs : s.size ≤ maxLen) (bn bd : Nat)
    (cn : w.cell? ⟨bn, 0, none⟩ = some (.string s)) (cd : w.cell? ⟨bd, 0, none⟩ = some (.pointer (some ⟨p, 0, none⟩))) :
    Calls Tryz.prog 78 #[.pointer (some ⟨bd, 0, none⟩), .pointer (some ⟨bn, 0, none⟩)] w (DidIs w fp p (removeDo s.data.toList d)) := by
  obtain ⟨mb, fv, h⟩ := h
  have hcm : w.drew.cell? ⟨p, 0, none⟩ = some (.map (some mb)) := h.cell.1
  have hcn : w.drew.cell? ⟨bn, 0, none⟩ = some (.string s) := cn
  have hcd : w.drew.cell? ⟨bd, 0, none⟩ = some (.pointer (some ⟨p, 0, none⟩)) := cd
  obtain ⟨w2, hrun2, hd2, hg2, hf2⟩ := DiskRaw.dropped (w := w.drew) (h.keep (fun _ _ => rfl) (Nat.le_refl _)) s hs 0
  have hT : Turn fp w w.drew := (Turn.refl _ _).drew
  have hfpm := h.fpm
  clear cn cd h
  go_enter Tryz.func78, Tryz.ntmps78
  go_wp2_with fail
  refine wp_region_still_tail 5 (by kernel_rfl) (by kernel_rfl) ?_
  change wpStill _ _ w.drew (fun a' => wpList _ _ _ _ a' w.drew) _ _
  have HFP := Lib.hid hT
  clear hT
  have hsz : w.drew.heap.size = w.heap.size := rfl
  have HSZ := Lib.hid hsz
  clear hsz
  generalize w.drew = wd at *
  simp only [List.take_succ_cons, List.take_zero, List.drop_succ_cons, List.drop_zero]
  repeat still_step
  refine wpStill_nil ?_
  go_wp2_with fail
  go_end0
  exact ⟨rfl, fp, ⟨_, _, hd2⟩, fun _ h => .inl h, HFP.out.trans0 (Turn.of_grown hg2 (fun r hr hl => by injection hr with hr; rw [← hr]; exact hfpm))⟩

set_option maxRecDepth 100000 in
set_option maxHeartbeats 1000000 in
theorem rename1_any {w : World} {fp : Nat → Prop} {p : Nat} {d : DS} (h : DiskAt w fp p d) (s t : ByteArray) (hs : s.size ≤ maxLen) (ht : t.size ≤ maxLen) (bt bd : Nat)
    (ct : w.cell? ⟨bt, 0, none⟩ = some (.string t)) (cd : w.cell? ⟨bd, 0, none⟩ = some (.pointer (some ⟨p, 0, none⟩))) :
    Calls Tryz.prog 92 #[.string s, .pointer (some ⟨bd, 0, none⟩), .pointer (some ⟨bt, 0, none⟩)] w fun e w' => e = .returned (.int .i64 (renameAsk d s.data.toList t.data.toList : Nat)) ∧ Below w.heap.size w w' := by
  have lt : bt < w.heap.size := block_lt_of_cell ct
  unfold renameAsk
  have HH := Lib.hid (has_any h s hs)
  by_cases h0 : DiskM.has d s.data.toList = 0
  · rw [if_pos h0]
    rw [h0] at HH
    by_cases hn : named t.data.toList = true
    · rw [if_pos hn]
      have HNM := Lib.hid hn
      clear h h0 hn
      go_enter Tryz.func92, Tryz.ntmps92
      go_wp2_with fail
      refine HH.out.mono ?_
      rintro e w1 ⟨rfl, hb1⟩
      have ct1 := (hb1.cell (p := ⟨bt, 0, none⟩) lt).trans ct
      go_wp2_with fail
      refine (named_any t _ ht).mono ?_
      rintro e w2 ⟨rfl, rfl⟩
      rw [HNM.out]
      go_wp2_with fail
      go_ret
      exact ⟨rfl, hb1⟩
    · have hn' : named t.data.toList = false := by simpa using hn
      rw [if_neg hn]
      have HNM := Lib.hid hn'
      clear h h0 hn hn'
      go_enter Tryz.func92, Tryz.ntmps92
      go_wp2_with fail
      refine HH.out.mono ?_
      rintro e w1 ⟨rfl, hb1⟩
      have ct1 := (hb1.cell (p := ⟨bt, 0, none⟩) lt).trans ct
      go_wp2_with fail
      refine (named_any t _ ht).mono ?_
      rintro e w2 ⟨rfl, rfl⟩
      rw [HNM.out]
      go_wp2_with fail
      go_ret
      exact ⟨rfl, hb1⟩
  · rw [if_neg h0]
    have h12 : DiskM.has d s.data.toList = 12 := by
      unfold DiskM.has at h0 ⊢
      split
      · next hh => rw [if_pos hh] at h0; exact absurd rfl h0
      · rfl
    rw [h12] at HH
    clear h h0 h12
    go_enter Tryz.func92, Tryz.ntmps92
    go_wp2_with fail
    refine HH.out.mono ?_
    rintro e w1 ⟨rfl, hb1⟩
    go_wp2_with fail
    go_ret
    exact ⟨rfl, hb1⟩

set_option maxRecDepth 100000 in
set_option maxHeartbeats 1000000 in
theorem sync_any {w : World} {fp : Nat → Prop} {p : Nat} {d : DS} (h : DiskAt w fp p d) (s : ByteArray) (hs : s.size ≤ maxLen) :
    Calls Tryz.prog 71 #[.pointer (some ⟨p, 0, none⟩), .string s] w (WriteIs w fp p (sync d s.data.toList)) := by
  have hb0 : Below w.heap.size w ((w.alloc (.cells #[.pointer (some ⟨p, 0, none⟩)] 25)).alloc (.cells #[.string s] 9)) := ((Below.refl _ _).alloc (Nat.le_refl _) _).alloc (by simp) _
  have hcd : ((w.alloc (.cells #[.pointer (some ⟨p, 0, none⟩)] 25)).alloc (.cells #[.string s] 9)).cell? ⟨w.heap.size, 0, none⟩ = some (.pointer (some ⟨p, 0, none⟩)) := by
    rw [World.cell?_alloc_lt _ _ _ (by simp), cell_of_row _ _ _ _ _ _ (heap_alloc_new _ _)]; rfl
  have hcn : ((w.alloc (.cells #[.pointer (some ⟨p, 0, none⟩)] 25)).alloc (.cells #[.string s] 9)).cell? ⟨w.heap.size + 1, 0, none⟩ = some (.string s) := by
    rw [← World.size_alloc w (.cells #[.pointer (some ⟨p, 0, none⟩)] 25), cell_of_row _ _ _ _ _ _ (heap_alloc_new _ _)]; rfl
  have hW : Calls Tryz.prog 46 #[.pointer (some ⟨p, 0, none⟩), .string s, .func (.func 74) #[.pointer (some ⟨p, 0, none⟩)] #[], .func (.func 91) #[] #[.pointer (some ⟨w.heap.size, 0, none⟩), .pointer (some ⟨w.heap.size + 1, 0, none⟩)], .func (.func 79) #[] #[]]
      ((w.alloc (.cells #[.pointer (some ⟨p, 0, none⟩)] 25)).alloc (.cells #[.string s] 9)) (WriteIs w fp p (sync d s.data.toList)) := by
    have hlt := h.lt
    have hD0 := h.below hb0
    have H0 := Lib.hid hb0
    generalize ((w.alloc (.cells #[.pointer (some ⟨p, 0, none⟩)] 25)).alloc (.cells #[.string s] 9)) = W0 at *
    have does : DiskM.has d s.data.toList = 0 → Does W0 fp p d (syncDo s.data.toList) 91 (#[] ++ #[.pointer (some ⟨w.heap.size, 0, none⟩), .pointer (some ⟨w.heap.size + 1, 0, none⟩)]) := by
      rw [Array.empty_append]
      intro hask W hT hD
      exact sync1_any hD s (by rw [gone_look]; exact has_yes hask) (w.heap.size + 1) w.heap.size (box_after hT hcn (fun e => by have := hlt _ e; omega)) (box_after hT hcd (fun e => by have := hlt _ e; omega))
    have asks : d.down = false → Calls Tryz.prog 74 ((#[.pointer (some ⟨p, 0, none⟩)] : Array Value).push (.string s) ++ #[]) W0 fun e w' => e = .returned (.int .i64 (DiskM.has d s.data.toList : Nat)) ∧ Below W0.heap.size W0 w' := by
      have e : ((#[.pointer (some ⟨p, 0, none⟩)] : Array Value).push (.string s) ++ #[]) = #[.pointer (some ⟨p, 0, none⟩), .string s] := rfl
      rw [e]
      exact fun _ => has_any hD0 s hs
    have nots : DiskM.has d s.data.toList = 0 → Does W0 fp p d id 79 (#[] ++ #[]) := by
      rw [Array.empty_append]
      exact fun _ => does_nothing
    refine (write_any hD0 s 74 #[.pointer (some ⟨p, 0, none⟩)] #[] 91 #[] _ 79 #[] #[] (DiskM.has d s.data.toList) (syncDo s.data.toList) id
      (enters_of Tryz.func74 (by kernel_rfl) rfl) (enters_of Tryz.func91 (by kernel_rfl) rfl) (enters_of Tryz.func79 (by kernel_rfl) rfl)
      asks does nots).mono ?_
    intro e w' hw
    exact hw.from H0.out
  have HW := Lib.hid hW
  clear hW hb0 hcd hcn h
  go_enter Tryz.func71, Tryz.ntmps71
  go_wp2_with fail
  refine HW.out.mono ?_
  rintro e w1 ⟨rfl, hw⟩
  go_wp2_with fail
  go_ret
  exact ⟨rfl, hw⟩

set_option maxRecDepth 100000 in
set_option maxHeartbeats 1000000 in
theorem remove_any {w : World} {fp : Nat → Prop} {p : Nat} {d : DS} (h : DiskAt w fp p d) (s : ByteArray) (hs : s.size ≤ maxLen) :
    Calls Tryz.prog 47 #[.pointer (some ⟨p, 0, none⟩), .string s] w (WriteIs w fp p (remove d s.data.toList)) := by
  have hb0 : Below w.heap.size w ((w.alloc (.cells #[.pointer (some ⟨p, 0, none⟩)] 25)).alloc (.cells #[.string s] 9)) := ((Below.refl _ _).alloc (Nat.le_refl _) _).alloc (by simp) _
  have hcd : ((w.alloc (.cells #[.pointer (some ⟨p, 0, none⟩)] 25)).alloc (.cells #[.string s] 9)).cell? ⟨w.heap.size, 0, none⟩ = some (.pointer (some ⟨p, 0, none⟩)) := by
    rw [World.cell?_alloc_lt _ _ _ (by simp), cell_of_row _ _ _ _ _ _ (heap_alloc_new _ _)]; rfl
  have hcn : ((w.alloc (.cells #[.pointer (some ⟨p, 0, none⟩)] 25)).alloc (.cells #[.string s] 9)).cell? ⟨w.heap.size + 1, 0, none⟩ = some (.string s) := by
    rw [← World.size_alloc w (.cells #[.pointer (some ⟨p, 0, none⟩)] 25), cell_of_row _ _ _ _ _ _ (heap_alloc_new _ _)]; rfl
  have hW : Calls Tryz.prog 46 #[.pointer (some ⟨p, 0, none⟩), .string s, .func (.func 74) #[.pointer (some ⟨p, 0, none⟩)] #[], .func (.func 78) #[] #[.pointer (some ⟨w.heap.size, 0, none⟩), .pointer (some ⟨w.heap.size + 1, 0, none⟩)], .func (.func 79) #[] #[]]
      ((w.alloc (.cells #[.pointer (some ⟨p, 0, none⟩)] 25)).alloc (.cells #[.string s] 9)) (WriteIs w fp p (remove d s.data.toList)) := by
    have hlt := h.lt
    have hD0 := h.below hb0
    have H0 := Lib.hid hb0
    generalize ((w.alloc (.cells #[.pointer (some ⟨p, 0, none⟩)] 25)).alloc (.cells #[.string s] 9)) = W0 at *
    have does : DiskM.has d s.data.toList = 0 → Does W0 fp p d (removeDo s.data.toList) 78 (#[] ++ #[.pointer (some ⟨w.heap.size, 0, none⟩), .pointer (some ⟨w.heap.size + 1, 0, none⟩)]) := by
      rw [Array.empty_append]
      intro hask W hT hD
      exact remove1_any hD s hs (w.heap.size + 1) w.heap.size (box_after hT hcn (fun e => by have := hlt _ e; omega)) (box_after hT hcd (fun e => by have := hlt _ e; omega))
    have asks : d.down = false → Calls Tryz.prog 74 ((#[.pointer (some ⟨p, 0, none⟩)] : Array Value).push (.string s) ++ #[]) W0 fun e w' => e = .returned (.int .i64 (DiskM.has d s.data.toList : Nat)) ∧ Below W0.heap.size W0 w' := by
      have e : ((#[.pointer (some ⟨p, 0, none⟩)] : Array Value).push (.string s) ++ #[]) = #[.pointer (some ⟨p, 0, none⟩), .string s] := rfl
      rw [e]
      exact fun _ => has_any hD0 s hs
    have nots : DiskM.has d s.data.toList = 0 → Does W0 fp p d id 79 (#[] ++ #[]) := by
      rw [Array.empty_append]
      exact fun _ => does_nothing
    refine (write_any hD0 s 74 #[.pointer (some ⟨p, 0, none⟩)] #[] 78 #[] _ 79 #[] #[] (DiskM.has d s.data.toList) (removeDo s.data.toList) id
      (enters_of Tryz.func74 (by kernel_rfl) rfl) (enters_of Tryz.func78 (by kernel_rfl) rfl) (enters_of Tryz.func79 (by kernel_rfl) rfl)
      asks does nots).mono ?_
    intro e w' hw
    exact hw.from H0.out
  have HW := Lib.hid hW
  clear hW hb0 hcd hcn h
  go_enter Tryz.func47, Tryz.ntmps47
  go_wp2_with fail
  refine HW.out.mono ?_
  rintro e w1 ⟨rfl, hw⟩
  go_wp2_with fail
  go_ret
  exact ⟨rfl, hw⟩

set_option maxRecDepth 100000 in
set_option maxHeartbeats 1000000 in
theorem rename_any {w : World} {fp : Nat → Prop} {p : Nat} {d : DS} (h : DiskAt w fp p d) (s t : ByteArray) (hs : s.size ≤ maxLen) (ht : t.size ≤ maxLen) :
    Calls Tryz.prog 73 #[.pointer (some ⟨p, 0, none⟩), .string s, .string t] w (WriteIs w fp p (rename d s.data.toList t.data.toList)) := by
  have hb0 : Below w.heap.size w (((w.alloc (.cells #[.pointer (some ⟨p, 0, none⟩)] 25)).alloc (.cells #[.string s] 9)).alloc (.cells #[.string t] 9)) := (((Below.refl _ _).alloc (Nat.le_refl _) _).alloc (by simp) _).alloc (by simp; omega) _
  have hcd : (((w.alloc (.cells #[.pointer (some ⟨p, 0, none⟩)] 25)).alloc (.cells #[.string s] 9)).alloc (.cells #[.string t] 9)).cell? ⟨w.heap.size, 0, none⟩ = some (.pointer (some ⟨p, 0, none⟩)) := by
    rw [World.cell?_alloc_lt _ _ _ (by simp; omega), World.cell?_alloc_lt _ _ _ (by simp), cell_of_row _ _ _ _ _ _ (heap_alloc_new _ _)]; rfl
  have hcn : (((w.alloc (.cells #[.pointer (some ⟨p, 0, none⟩)] 25)).alloc (.cells #[.string s] 9)).alloc (.cells #[.string t] 9)).cell? ⟨w.heap.size + 1, 0, none⟩ = some (.string s) := by
    rw [World.cell?_alloc_lt _ _ _ (by simp), ← World.size_alloc w (.cells #[.pointer (some ⟨p, 0, none⟩)] 25), cell_of_row _ _ _ _ _ _ (heap_alloc_new _ _)]; rfl
  have hct : (((w.alloc (.cells #[.pointer (some ⟨p, 0, none⟩)] 25)).alloc (.cells #[.string s] 9)).alloc (.cells #[.string t] 9)).cell? ⟨w.heap.size + 1 + 1, 0, none⟩ = some (.string t) := by
    rw [show w.heap.size + 1 + 1 = ((w.alloc (.cells #[.pointer (some ⟨p, 0, none⟩)] 25)).alloc (.cells #[.string s] 9)).heap.size by simp, cell_of_row _ _ _ _ _ _ (heap_alloc_new _ _)]; rfl
  have hW : Calls Tryz.prog 46 #[.pointer (some ⟨p, 0, none⟩), .string s, .func (.func 92) #[] #[.pointer (some ⟨w.heap.size, 0, none⟩), .pointer (some ⟨w.heap.size + 1 + 1, 0, none⟩)], .func (.func 93) #[] #[.pointer (some ⟨w.heap.size, 0, none⟩), .pointer (some ⟨w.heap.size + 1, 0, none⟩), .pointer (some ⟨w.heap.size + 1 + 1, 0, none⟩)], .func (.func 79) #[] #[]]
      (((w.alloc (.cells #[.pointer (some ⟨p, 0, none⟩)] 25)).alloc (.cells #[.string s] 9)).alloc (.cells #[.string t] 9)) (WriteIs w fp p (rename d s.data.toList t.data.toList)) := by
    have hlt := h.lt
    have hD0 := h.below hb0
    have H0 := Lib.hid hb0
    generalize (((w.alloc (.cells #[.pointer (some ⟨p, 0, none⟩)] 25)).alloc (.cells #[.string s] 9)).alloc (.cells #[.string t] 9)) = W0 at *
    have does : renameAsk d s.data.toList t.data.toList = 0 → Does W0 fp p d (renameDo s.data.toList t.data.toList) 93 (#[] ++ #[.pointer (some ⟨w.heap.size, 0, none⟩), .pointer (some ⟨w.heap.size + 1, 0, none⟩), .pointer (some ⟨w.heap.size + 1 + 1, 0, none⟩)]) := by
      rw [Array.empty_append]
      intro hask W hT hD
      unfold renameAsk at hask
      split at hask
      · next hh =>
        split at hask
        · next hnm =>
          exact rename2_any hD s (by rw [gone_look]; exact has_yes hh) t (named_size hnm) (w.heap.size + 1 + 1) (w.heap.size + 1) w.heap.size (box_after hT hct (fun e => by have := hlt _ e; omega)) (box_after hT hcn (fun e => by have := hlt _ e; omega)) (box_after hT hcd (fun e => by have := hlt _ e; omega))
        · cases hask
      · cases hask
    have asks : d.down = false → Calls Tryz.prog 92 ((#[] : Array Value).push (.string s) ++ #[.pointer (some ⟨w.heap.size, 0, none⟩), .pointer (some ⟨w.heap.size + 1 + 1, 0, none⟩)]) W0 fun e w' => e = .returned (.int .i64 (renameAsk d s.data.toList t.data.toList : Nat)) ∧ Below W0.heap.size W0 w' := by
      have e : ((#[] : Array Value).push (.string s) ++ #[.pointer (some ⟨w.heap.size, 0, none⟩), .pointer (some ⟨w.heap.size + 1 + 1, 0, none⟩)]) = #[.string s, .pointer (some ⟨w.heap.size, 0, none⟩), .pointer (some ⟨w.heap.size + 1 + 1, 0, none⟩)] := rfl
      rw [e]
      exact fun _ => rename1_any hD0 s t hs ht _ _ hct hcd
    have nots : renameAsk d s.data.toList t.data.toList = 0 → Does W0 fp p d id 79 (#[] ++ #[]) := by
      rw [Array.empty_append]
      exact fun _ => does_nothing
    refine (write_any hD0 s 92 #[] _ 93 #[] _ 79 #[] #[] (renameAsk d s.data.toList t.data.toList) (renameDo s.data.toList t.data.toList) id
      (enters_of Tryz.func92 (by kernel_rfl) rfl) (enters_of Tryz.func93 (by kernel_rfl) rfl) (enters_of Tryz.func79 (by kernel_rfl) rfl)
      asks does nots).mono ?_
    intro e w' hw
    exact hw.from H0.out
  have HW := Lib.hid hW
  clear hW hb0 hcd hcn hct h
  go_enter Tryz.func73, Tryz.ntmps73
  go_wp2_with fail
  refine HW.out.mono ?_
  rintro e w1 ⟨rfl, hw⟩
  go_wp2_with fail
  go_ret
  exact ⟨rfl, hw⟩
end Go.Proofs.YtopnhplacdbkdaaGreat
