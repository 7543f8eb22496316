/- The walk of Files: the program's disk has just the files of the reference disk. Condition: both lie behind their pointers, apart. -/
import Derived.Test.YtopnhplacdbkdaaGreatBoth
import Derived.Test.YtopnhplacdbkdaaGreatFlat
import Derived.Deep.RegionHeld3
import Derived.RangeFuncBox
import Derived.TacticsInMore
namespace Go.Proofs.YtopnhplacdbkdaaGreat
open Go.RowKit DiskM Go.Shelf
attribute [local go_sem] Oper.semAt_some

def ownV (B n : Nat) (bs : List UInt8) (v : Value) (w : World) : Prop := ∃ a c, v = .slice a n c ∧ Own w B a n c bs
theorem ownV_grow {B n : Nat} {bs : List UInt8} {v : Value} {w w' : World} (h : ownV B n bs v w) (hb : Below w.heap.size w w') : ownV B n bs v w' := by
  obtain ⟨a, c, rfl, ho⟩ := h
  exact ⟨a, c, rfl, ho.call hb⟩
/-- a round that counts -/
theorem ctr_round {U W : World} {b k Bx p mb : Nat} {ns : List Nm} (hW : Below U.heap.size U W) (hc : Ctr W b k) (hm : mb ≠ b) :
    KeepsFrom Bx U (W.setCell ⟨b, 0, none⟩ (.int .i64 ((k : Int) + 1))) ∧ DKp (fun j => j = b) Bx p mb ns U (W.setCell ⟨b, 0, none⟩ (.int .i64 ((k : Int) + 1))) ∧ Ctr (W.setCell ⟨b, 0, none⟩ (.int .i64 ((k : Int) + 1))) b (k + 1) := by
  refine ⟨?_, (DKp.below hW).trans ?_, ?_⟩
  · have h1 : KeepsFrom Bx U W := KeepsFrom.of_grownBy (row := none) (grown_below hW none) (fun j e => by cases e)
    exact h1.trans ((KeepsOthers.setCell _ _ _).from _)
  · rintro fp d ⟨fv, hr⟩ hn
    have hoth : ∀ j, j ≠ b → (W.setCell ⟨b, 0, none⟩ (.int .i64 ((k : Int) + 1))).heap[j]? = W.heap[j]? := fun j hj => Below.heap_setCell _ _ _ _ hj
    have hne : ∀ (j : Nat) (cs : Array Value) (t : TypeId) (f : Nat × Nat), t ≠ 3 → W.heap[j]? = some (.cells cs t f) → j ≠ b := by
      intro j cs t f ht hj e
      have hc' : W.heap[b]? = _ := hc
      rw [e, hc'] at hj
      injection hj with hj
      injection hj with _ hj _
      exact ht hj.symm
    refine ⟨fp, d, ⟨fv, hr.keepc (hoth p (hne _ _ _ _ (by decide) hr.cells)) (hoth mb hm) (fun x hx ad ha => by
      obtain ⟨cur, hh⟩ := (hr.rows x hx).1.cellsAt ad ha
      exact hoth _ (hne _ _ _ _ (by decide) hh)) (by simp [World.setCell])⟩, hn, fun j hj => .inl hj, by simp [World.setCell], fun j _ hj => hoth j fun e => hj (.inl e)⟩
  · have := heap_setCell_same W b 0 _ _ (.int .i64 ((k : Int) + 1)) hc
    exact this
/-- the disk in a world is one -/
theorem disk_same {w : World} {fp fq : Nat → Prop} {p mb : Nat} {d d' : DS} (h : DiskMb w fp p mb d) (h' : DiskMb w fq p mb d') (k : Nm) (hk : k.length ≤ 1000) : (DiskM.old d k).1 = (DiskM.old d' k).1 := by
  obtain ⟨fv, h⟩ := h
  obtain ⟨fv', h'⟩ := h'
  have h1 := h.look_plain ⟨k.toArray⟩ (by show k.toArray.size ≤ _; unfold maxLen; simp; omega)
  rw [h'.look_plain ⟨k.toArray⟩ (by show k.toArray.size ≤ _; unfold maxLen; simp; omega)] at h1
  have e : getF fv' k = getF fv' (⟨k.toArray⟩ : ByteArray).data.toList := rfl
  have e2 : getF fv k = getF fv (⟨k.toArray⟩ : ByteArray).data.toList := rfl
  injection h1 with h1 _
  injection h1 with h1
  injection h1 with h1
  simp only [List.cons.injEq, Value.slice.injEq, Value.int.injEq, true_and, and_true] at h1
  obtain ⟨⟨ha, hn, hc⟩, hs⟩ := h1
  rw [← e, ← e2] at ha hn
  have f1 := h.fil k
  have f2 := h'.fil k
  have o1 := h.old k
  have o2 := h'.old k
  rw [o1, o2]
  show (getF fv k).bs = (getF fv' k).bs
  obtain ⟨l1, _, _, x1⟩ := f1
  obtain ⟨l2, _, _, x2⟩ := f2
  rcases x1 with ⟨a1, c1⟩ | ⟨g1, cur1, a1, hh1, _, t1⟩
  · rcases x2 with ⟨a2, c2⟩ | ⟨g2, cur2, a2, _⟩
    · have z1 : (getF fv k).bs.length = 0 := by omega
      have z2 : (getF fv' k).bs.length = 0 := by omega
      rw [List.eq_nil_of_length_eq_zero z1, List.eq_nil_of_length_eq_zero z2]
    · rw [ha, a1] at a2; cases a2
  · rcases x2 with ⟨a2, c2⟩ | ⟨g2, cur2, a2, hh2, _, t2⟩
    · rw [ha, a1] at a2; cases a2
    · rw [ha, a1] at a2
      injection a2 with a2
      injection a2 with a2
      subst a2
      rw [hh1] at hh2
      injection hh2 with hh2
      injection hh2 with hh2 _ _
      subst hh2
      rw [hn, t1] at t2
      exact (List.map_inj_right (fun x y hxy => by
        unfold bv at hxy
        injection hxy with _ hxy
        exact UInt8.toNat_inj.1 (by omega))).1 t2

set_option maxRecDepth 100000 in
set_option maxHeartbeats 8000000 in
theorem files_any {w : World} {B p r : Nat} {S : Nat → Prop} {d : DS} (h : Both w B S p r d) :
    Calls Tryz.prog 9 #[.pointer (some ⟨p, 0, none⟩), .pointer (some ⟨r, 0, none⟩)] w fun e w' => e = .returned (.bool true) ∧ Below w.heap.size w w' := by
  refine (callsIn_wide (n := 6)).1 ?_
  refine callsIn_of_wp_marks Tryz.func9 rfl trivial ?_ rfl
  simp only [Tryz.ntmps9, List.size_toArray, List.length_cons, List.length_nil, Nat.reduceAdd, Nat.reduceSub, Array.replicate_succ, Array.replicate_zero, List.push_toArray, List.append_toArray, List.nil_append, List.cons_append]
  refine wpIn_wide.2 ?_
  have HBO := Lib.hid h
  clear h
  go_wp2_with fail
  have hB0 : Below w.heap.size w (((w.alloc (.cells #[.pointer (some ⟨p, 0, none⟩)] 25)).alloc (.cells #[.pointer (some ⟨r, 0, none⟩)] 27)).alloc (.cells #[.bool false] 4)) := (((Below.refl _ _).alloc (Nat.le_refl _) _).alloc (by simp) _).alloc (by simp; omega) _
  have x0 : (((w.alloc (.cells #[.pointer (some ⟨p, 0, none⟩)] 25)).alloc (.cells #[.pointer (some ⟨r, 0, none⟩)] 27)).alloc (.cells #[.bool false] 4)).heap[w.heap.size]? = some (.cells #[.pointer (some ⟨p, 0, none⟩)] 25 (0, 0)) := (Below.heap_alloc _ _ _ (by simp; omega)).trans ((Below.heap_alloc _ _ _ (by simp)).trans (World.alloc_heap_new w _))
  have x1 : (((w.alloc (.cells #[.pointer (some ⟨p, 0, none⟩)] 25)).alloc (.cells #[.pointer (some ⟨r, 0, none⟩)] 27)).alloc (.cells #[.bool false] 4)).heap[w.heap.size + 1]? = some (.cells #[.pointer (some ⟨r, 0, none⟩)] 27 (0, 0)) := by
    rw [Below.heap_alloc _ _ _ (by simp)]
    have := World.alloc_heap_new (w.alloc (.cells #[.pointer (some ⟨p, 0, none⟩)] 25)) (.cells #[.pointer (some ⟨r, 0, none⟩)] 27)
    rwa [World.size_alloc] at this
  have x2 : (((w.alloc (.cells #[.pointer (some ⟨p, 0, none⟩)] 25)).alloc (.cells #[.pointer (some ⟨r, 0, none⟩)] 27)).alloc (.cells #[.bool false] 4)).heap[w.heap.size + 1 + 1]? = some (.cells #[.bool false] 4 (0, 0)) := by
    have := World.alloc_heap_new ((w.alloc (.cells #[.pointer (some ⟨p, 0, none⟩)] 25)).alloc (.cells #[.pointer (some ⟨r, 0, none⟩)] 27)) (.cells #[.bool false] 4)
    rwa [World.size_alloc, World.size_alloc] at this
  have hsz : (((w.alloc (.cells #[.pointer (some ⟨p, 0, none⟩)] 25)).alloc (.cells #[.pointer (some ⟨r, 0, none⟩)] 27)).alloc (.cells #[.bool false] 4)).heap.size = w.heap.size + 3 := by simp
  generalize (((w.alloc (.cells #[.pointer (some ⟨p, 0, none⟩)] 25)).alloc (.cells #[.pointer (some ⟨r, 0, none⟩)] 27)).alloc (.cells #[.bool false] 4)) = W0 at *
  have hboth0 := HBO.out.below hB0
  have HB0 := Lib.hid hboth0
  obtain ⟨fq, hr0, hk0, hq0⟩ := hboth0
  refine (reflist_any hr0).mono ?_
  obtain ⟨ns, hns⟩ : ∃ ns, namesOf d = ns := ⟨_, rfl⟩
  rw [hns]
  have HNS := Lib.hid hns
  have HX0 := Lib.hid x0
  have HX1 := Lib.hid x1
  have HX2 := Lib.hid x2
  have HSZ := Lib.hid hsz
  clear x0 x1 x2 hsz hns hr0 hk0 hq0
  rintro e w1 ⟨al, cl, rfl, hrow, hb1⟩
  go_upto_region 2 with fail
  have hs1 := hb1.size
  have hb2 : Below W0.heap.size W0 (w1.alloc (.cells #[.slice al ns.length cl] 41)) := hb1.alloc hs1 _
  have x3 := heap_alloc_new w1 (.cells #[.slice al ns.length cl] 41)
  have hrow2 := hrow.alloc (.cells #[.slice al ns.length cl] 41)
  have hsz2 : (w1.alloc (.cells #[.slice al ns.length cl] 41)).heap.size = w1.heap.size + 1 := by simp
  generalize w1.alloc (.cells #[.slice al ns.length cl] 41) = W2 at *
  have hfew : ns.length ≤ 1000000 := by have := HB0.out.ok.few; rw [← HNS.out]; simpa [namesOf] using this
  have HAT : Hid (∀ W, Below W2.heap.size W2 W → Both W B S p r d) := Lib.hid fun W hW => (HB0.out.below hb2).below hW
  have hz0 : W0.heap.size ≤ w1.heap.size := hs1
  have HK : Hid (∀ W, Below W2.heap.size W2 W → W.cell? ⟨w.heap.size, 0, none⟩ = some (.pointer (some ⟨p, 0, none⟩)) ∧ W.cell? ⟨w.heap.size + 1, 0, none⟩ = some (.pointer (some ⟨r, 0, none⟩)) ∧ W.cell? ⟨w1.heap.size, 0, none⟩ = some (.slice al ns.length cl) ∧ W.cell? ⟨r, 1, none⟩ = some (.int .i64 (d.room : Int)) ∧ W.cell? ⟨r, 5, none⟩ = some (.bool d.down) ∧ Below W2.heap.size W2 W) := Lib.hid fun W hW => by
    have hsz := HSZ.out
    have q0 := (hW.block w.heap.size (by omega)).trans ((hb2.block w.heap.size (by omega)).trans HX0.out)
    have q1 := (hW.block (w.heap.size + 1) (by omega)).trans ((hb2.block (w.heap.size + 1) (by omega)).trans HX1.out)
    have q3 := (hW.block w1.heap.size (by omega)).trans x3
    obtain ⟨c1, c5⟩ := (HAT.out W hW).cell
    exact ⟨cell_of_row _ _ 0 _ _ _ q0, cell_of_row _ _ 0 _ _ _ q1, cell_of_row _ _ 0 _ _ _ q3, c1, c5, hW⟩
  have HROW : Hid (∀ W, Below W2.heap.size W2 W → Row W W0.heap.size 9 1 al ns.length cl (strs ns)) := Lib.hid fun W hW => hrow2.call hW
  have HX3 := Lib.hid x3
  have HB2 := Lib.hid hb2
  have HSZ2 := Lib.hid hsz2
  have hBB : Below W2.heap.size W2 W2.drew := (Below.refl _ _).drew
  have HBW := Lib.hid hB0
  clear x3 hb2 hrow hrow2 hsz2 hb1 hs1 hB0
  go_region_held3 (fun W => W.cell? ⟨w.heap.size, 0, none⟩ = some (.pointer (some ⟨p, 0, none⟩)) ∧ W.cell? ⟨w.heap.size + 1, 0, none⟩ = some (.pointer (some ⟨r, 0, none⟩)) ∧ W.cell? ⟨w1.heap.size, 0, none⟩ = some (.slice al ns.length cl) ∧ W.cell? ⟨r, 1, none⟩ = some (.int .i64 (d.room : Int)) ∧ W.cell? ⟨r, 5, none⟩ = some (.bool d.down) ∧ Below W2.heap.size W2 W)
    (exact HK.out _ (by assumption))
    (first
      | (go_at_call 14; ((with_reducible refine (b_list (B := B) (S := S) (p := p) (r := r) (d := d) ?_ HNS.out).mono ?_); (exact HAT.out _ (by assumption)); rintro e w5 ⟨a5, c5, rfl, hrow5, hb5⟩; have hB5 : Below W2.heap.size W2 w5 := Below.next0 (by assumption) hb5))
      | (go_at_call 31; ((with_reducible refine (b_used (B := B) (S := S) (p := p) (r := r) (d := d) ?_).mono ?_); (exact HAT.out _ (by assumption)); rintro e w7 ⟨rfl, hb7⟩; have hB7 : Below W2.heap.size W2 w7 := Below.next0 (by assumption) hb7))
      | (go_at_call 32; ((with_reducible refine (b_rused (B := B) (S := S) (p := p) (r := r) (d := d) ?_).mono ?_); (exact HAT.out _ (by assumption)); rintro e w8 ⟨rfl, rfl⟩))
      | (go_at_call 33; ((with_reducible refine (b_room (B := B) (S := S) (p := p) (r := r) (d := d) ?_).mono ?_); (exact HAT.out _ (by assumption)); rintro e w8 ⟨rfl, rfl⟩))
      | (go_at_call 34; ((with_reducible refine (b_down (B := B) (S := S) (p := p) (r := r) (d := d) ?_).mono ?_); (exact HAT.out _ (by assumption)); rintro e w8 ⟨rfl, rfl⟩))
      | (go_at_call 30; ((with_reducible refine (texts_same _ _ al ns.length _ ns.length cl ns ?_ ?_ hfew).mono ?_); (exact ⟨_, by assumption⟩); (exact ⟨_, HROW.out _ (by assumption)⟩); rintro e w6 ⟨rfl, hb6⟩; have hB6 : Below W2.heap.size W2 w6 := Below.next0 (by assumption) hb6)))
  obtain ⟨k0, k1, k3, -, -, -⟩ := HK.out w7 hB7
  have s7 := hB7.size
  have l3 : w1.heap.size < w7.heap.size := by have := HSZ2.out; omega
  have l0 : w.heap.size < w7.heap.size := by have := HSZ.out; omega
  have l1 : w.heap.size + 1 < w7.heap.size := by have := HSZ.out; omega
  have l2 : w.heap.size + 1 + 1 < w7.heap.size := by have := HSZ.out; omega
  have k2 : w7.heap[w.heap.size + 1 + 1]? = some (.cells #[.bool false] 4 (0, 0)) := (hB7.block _ (by have := HSZ.out; have := HSZ2.out; omega)).trans ((HB2.out.block _ (by have := HSZ.out; omega)).trans HX2.out)
  have hbo7 := HAT.out w7 hB7
  have hro7 := HROW.out w7 hB7
  have hbw : Below w.heap.size w w7 := by
    have h1 : Below w.heap.size w W0 := ⟨HBW.out.os, HBW.out.tape, HBW.out.output, HBW.out.size, HBW.out.block⟩
    exact (h1.trans (HB2.out.mono (by have := HSZ.out; omega))).trans (hB7.mono (by have := HSZ.out; have := HSZ2.out; omega))
  clear hb5 hB5 hb6 hB6 hb7 hB7 hrow5 hBB
  have HBO7 := Lib.hid hbo7
  have HRO7 := Lib.hid hro7
  have HBW7 := Lib.hid hbw
  have HK2 := Lib.hid k2
  clear hbo7 hro7 hbw k2 HAT HROW HK
  go_wp2_with fail
  have c8 : Ctr (w7.alloc (.cells #[.int .i64 0] 3)) w7.heap.size 0 := heap_alloc_new w7 _
  have hb8 : Below w7.heap.size w7 (w7.alloc (.cells #[.int .i64 0] 3)) := (Below.refl _ _).alloc (Nat.le_refl _) _
  have hs8 : (w7.alloc (.cells #[.int .i64 0] 3)).heap.size = w7.heap.size + 1 := by simp
  generalize w7.alloc (.cells #[.int .i64 0] 3) = W8 at *
  refine (dall_any p W8).mono ?_
  rintro e w9 ⟨rfl, rfl⟩
  have hb9 : Below W8.heap.size W8 (W8.alloc (.cells #[.pointer (some ⟨p, 0, none⟩)] 25)) := (Below.refl _ _).alloc (Nat.le_refl _) _
  have x9 := heap_alloc_new W8 (.cells #[.pointer (some ⟨p, 0, none⟩)] 25)
  have hs9 : (W8.alloc (.cells #[.pointer (some ⟨p, 0, none⟩)] 25)).heap.size = W8.heap.size + 1 := by simp
  have HC8 := Lib.hid c8
  have HX9 := Lib.hid x9
  have HS8 := Lib.hid hs8
  clear c8 x9 hs8
  go_wp2_with fail
  generalize W8.alloc (.cells #[.pointer (some ⟨p, 0, none⟩)] 25) = W9 at *
  have HS9 := Lib.hid hs9
  clear hs9
  obtain ⟨fq7, hr7, ⟨⟨fp, ⟨mb, fv, hraw7⟩, hfp⟩, hks, hkB⟩, hq7⟩ := HBO7.out
  have hd7 : DiskMb w7 fp p mb d := ⟨fv, hraw7⟩
  have hb79 : Below w7.heap.size w7 W9 := hb8.trans (hb9.mono (by have := HS8.out; omega))
  have hd9 : DiskMb W9 fp p mb d := hd7.below hb79
  have hml : mb < w7.heap.size := hraw7.map.lt
  have hfl : ∀ k, fp k → k < w7.heap.size := hd7.at.lt
  have hs79 : W9.heap.size = w7.heap.size + 2 := by have := HS8.out; have := HS9.out; omega
  have hx9c : W9.cell? ⟨W8.heap.size, 0, none⟩ = some (.pointer (some ⟨p, 0, none⟩)) := cell_of_row _ _ 0 _ _ _ HX9.out
  have hc9 : Ctr W9 w7.heap.size 0 := (hb9.block _ (by have := HS8.out; omega)).trans HC8.out
  have HRAW7 := Lib.hid hraw7
  have HD9 := Lib.hid hd9
  have HD7 := Lib.hid hd7
  have HB79 := Lib.hid hb79
  have HML := Lib.hid hml
  have HFL := Lib.hid hfl
  have HS79 := Lib.hid hs79
  have HC9 := Lib.hid hc9
  have HX9C := Lib.hid hx9c
  clear hr7 hraw7 hd7 hb79 hd9 hml hfl hs79 hc9 hx9c hfp hks hkB hq7 hb8 hb9
  refine (wpIn_wide (n := 6)).1 ?_
  refine wpIn_range_ok rfl (by omega) (gf := 61) (lb := #[.pointer (some ⟨W8.heap.size, 0, none⟩)]) rfl trivial (enters_of Tryz.func61 (by kernel_rfl) rfl)
    (dall_stops _ (by omega) W8.heap.size W9.heap.size p mb (fun k => k = w7.heap.size) ns W9 HX9C.out (by have := HS8.out; omega) (Nat.le_refl _) (fun k hk => by have := HS79.out; omega) fp d HD9.out HNS.out (fun hf => by have := HFL.out _ hf; have := HS8.out; omega) (by have := HS8.out; have := HS79.out; omega))
    (fun h k => h.trans k) (fun W l o o' hl hw ho => DKp.turn (by have := HML.out; have := HS79.out; omega) W l o o' hl hw ho) (fun pre x W l o o' hk hl hw ho => hk.putObj (by have := HML.out; have := HS79.out; omega) hl hw ho) (Below.refl _ _) (fun _ => rfl)
    (fun pre U => Ctr U w7.heap.size pre.length ∧ Below w7.heap.size w7 U)
    (fun _ _ _ => False)
    (fun s A Bw row hs hg hr => ⟨(grownBy_keeps_cells hg (fun r e => (hr r e).2) hs.1 rfl).trans hs.1, hs.2.grown hg hs.2.size (fun k e => by have := (hr k e).1; have := HS79.out; omega)⟩)
    (fun _ _ _ _ _ hs _ _ => hs)
    ⟨HC9.out, HB79.out⟩
    ?_ ?_ ?_ ?_ ?_
  case refine_2 =>
    intro l x U K hK
    simp only [DRec.encs]
    gi_wp2
    exact hK
  case refine_5 =>
    rintro D c pre U _ _ h _
    exact h.elim
  case refine_3 =>
    rintro l pre x U ⟨hctr, hbU⟩ hkok
    obtain ⟨hpre, hox, fpx, dx, hdx, hnx, hbx, hax⟩ := hkok
    have hname : ns[pre.length]? = some x.name := by
      obtain ⟨rest, hr⟩ := hpre
      rw [← hr, List.append_assoc, List.getElem?_append_right (by simp)]
      simp
    have hplt : pre.length < ns.length := (List.getElem?_eq_some_iff.1 hname).1
    obtain ⟨g, rfl, hgB, hgl, hgc⟩ := HRO7.out.at_ (j := pre.length) (x := encStr x.name) (by unfold strs; rw [List.getElem?_map, hname]; rfl)
    have hxin : (DiskM.look x.name d.files).isSome = true := (names_some HD9.out.at.ok).2 (by rw [HNS.out]; exact List.mem_of_getElem? hname)
    have hxl : x.name.length ≤ 16 := name_le HD9.out.at.ok hxin
    have hbs : x.bs = (DiskM.old d x.name).1 := by
      rw [hbx, disk_same hdx (HD7.out.below hbU) x.name (by omega)]
    have HBS := Lib.hid hbs
    have HNML : Hid ((⟨x.name.toArray⟩ : ByteArray).size ≤ maxLen) := Lib.hid (by show x.name.toArray.size ≤ _; unfold maxLen; simp; omega)
    have HF : Hid (∀ W, Below U.heap.size U W → W.cell? ⟨w.heap.size, 0, none⟩ = some (.pointer (some ⟨p, 0, none⟩)) ∧ W.cell? ⟨w.heap.size + 1, 0, none⟩ = some (.pointer (some ⟨r, 0, none⟩)) ∧ W.cell? ⟨w1.heap.size, 0, none⟩ = some (.slice (some ⟨g, 0, none⟩) ns.length cl) ∧ W.cell? ⟨w7.heap.size, 0, none⟩ = some (.int .i64 (pre.length : Int)) ∧ W.cell? ⟨g, pre.length, none⟩ = some (.string ⟨x.name.toArray⟩) ∧ Both W B S p r d ∧ Rd W W.heap.size x.a x.bs) := Lib.hid fun W hW => by
      have hu := hbU.size
      refine ⟨((hW.cell (p := ⟨w.heap.size, 0, none⟩) (by show w.heap.size < _; omega)).trans (hbU.cell (p := ⟨w.heap.size, 0, none⟩) l0)).trans k0, ((hW.cell (p := ⟨w.heap.size + 1, 0, none⟩) (by show w.heap.size + 1 < _; omega)).trans (hbU.cell (p := ⟨w.heap.size + 1, 0, none⟩) l1)).trans k1, ((hW.cell (p := ⟨w1.heap.size, 0, none⟩) (by show w1.heap.size < _; omega)).trans (hbU.cell (p := ⟨w1.heap.size, 0, none⟩) l3)).trans k3, ?_, ((hW.cell (p := ⟨g, pre.length, none⟩) (by show g < _; omega)).trans (hbU.cell (p := ⟨g, pre.length, none⟩) hgl)).trans hgc, (HBO7.out.below hbU).below hW, hox.rd.step hW⟩
      exact (hW.cell (p := ⟨w7.heap.size, 0, none⟩) (block_lt_of_cell hctr.box.1)).trans hctr.box.1
    have hge : ¬ (ns.length ≤ pre.length) := by omega
    have hlt' : (pre.length : Int) < (ns.length : Int) := by omega
    have HCT := Lib.hid hctr
    have HBU := Lib.hid hbU
    clear hctr hbU hpre hox hdx hnx hbx hax hname hgB hgl hgc hxin hxl hbs
    gi_wp2_with fail
    refine wpIn_region_flat_round (by kernel_rfl) (fun W => Below U.heap.size U W) (fun _ _ h h' => Below.next0 h h') (detV [.int .i64 (pre.length : Int), .slice (some ⟨g, 0, none⟩) ns.length cl, .int .i64 (ns.length : Int), .bool false, .bool false, .string ⟨x.name.toArray⟩, .slice (some ⟨g, 0, none⟩) ns.length cl, .int .i64 (pre.length : Int), .pointer (some ⟨g, pre.length, none⟩), .string ⟨x.name.toArray⟩, .bool false, .bool false, .bool false, .slice x.a x.bs.length x.c, .string ⟨x.bs.toArray⟩, .pointer (some ⟨r, 0, none⟩), .string ⟨x.name.toArray⟩, undef, .string ⟨x.bs.toArray⟩, .bool false, .bool false, .bool false, .pointer (some ⟨p, 0, none⟩), .string ⟨x.name.toArray⟩, .int .i64 ((DiskM.old d x.name).2 : Nat), .pointer (some ⟨r, 0, none⟩), .string ⟨x.name.toArray⟩, .int .i64 ((DiskM.old d x.name).2 : Nat), .bool false, .bool false] (fun i => if i = 17 then some (ownV U.heap.size (DiskM.old d x.name).1.length (DiskM.old d x.name).1) else none))
      (detV_grow fun i φ h => by
        by_cases h17 : i = 17
        · rw [if_pos h17] at h; injection h with h; subst h; exact fun _ _ _ h h' => ownV_grow h h'
        · rw [if_neg h17] at h; cases h) (by kernel_rfl) (Below.refl _ _).drew ?_ ?_
    · skip
      refine ⟨fun a W hW hag hdep => ?_, ?_⟩
      · have e6 : a.tmps[6]?.getD undef = .pointer (some ⟨w7.heap.size, 0, none⟩) := evalD (hag.keep (t := 6) (by kernel_rfl) rfl)
        refine flat_on rfl ?_
        obtain ⟨f2, f3, f5, f6, fg, fb, fr⟩ := HF.out W hW
        refine flat_run (u := .int .i64 (pre.length : Int)) ?_ ((detV_at rfl).2 rfl)
        simp [go_sem, e6, f6]
      refine ⟨fun a W hW hag hdep => ?_, ?_⟩
      · have e5 : a.tmps[5]?.getD undef = .pointer (some ⟨w1.heap.size, 0, none⟩) := evalD (hag.keep (t := 5) (by kernel_rfl) rfl)
        refine flat_on rfl ?_
        obtain ⟨f2, f3, f5, f6, fg, fb, fr⟩ := HF.out W hW
        refine flat_run (u := .slice (some ⟨g, 0, none⟩) ns.length cl) ?_ ((detV_at rfl).2 rfl)
        simp [go_sem, e5, f5]
      refine ⟨fun a W hW hag hdep => ?_, ?_⟩
      · have e50 : a.tmps[50]?.getD undef = .slice (some ⟨g, 0, none⟩) ns.length cl := evalD ((detV_at rfl).1 (hdep 1 (by decide)))
        refine flat_on rfl ?_
        refine flat_run (u := .int .i64 (ns.length : Int)) ?_ ((detV_at rfl).2 rfl)
        simp [go_sem, e50]
      refine ⟨fun a W hW hag hdep => ?_, ?_⟩
      · have e49 : a.tmps[49]?.getD undef = .int .i64 (pre.length : Int) := evalD ((detV_at rfl).1 (hdep 0 (by decide)))
        have e51 : a.tmps[51]?.getD undef = .int .i64 (ns.length : Int) := evalD ((detV_at rfl).1 (hdep 2 (by decide)))
        refine flat_on rfl ?_
        obtain ⟨f2, f3, f5, f6, fg, fb, fr⟩ := HF.out W hW
        refine flat_run (u := .bool false) ?_ ((detV_at rfl).2 rfl)
        simp [go_sem, e49, e51, hge]
      refine ⟨fun a W hW hag hdep => ?_, ?_⟩
      · have e52 : a.tmps[52]?.getD undef = .bool false := evalD ((detV_at rfl).1 (hdep 3 (by decide)))
        refine flat_on rfl ?_
        refine flat_run (u := .bool false) ?_ ((detV_at rfl).2 rfl)
        simp [go_sem, e52]
      refine ⟨fun a W hW hag hdep => ?_, ?_⟩
      · have e7 : a.tmps[7]?.getD undef = .string ⟨x.name.toArray⟩ := evalD (hag.keep (t := 7) (by kernel_rfl) rfl)
        have eg : a.eval (.tmp 53) = .bool false := (detV_at rfl).1 (hdep 4 (by decide))
        refine flat_go (t := 53) rfl rfl eg ?_
        refine flat_run (u := .string ⟨x.name.toArray⟩) ?_ ((detV_at rfl).2 rfl)
        simp [go_sem, e7]
      refine ⟨fun a W hW hag hdep => ?_, ?_⟩
      · have e5 : a.tmps[5]?.getD undef = .pointer (some ⟨w1.heap.size, 0, none⟩) := evalD (hag.keep (t := 5) (by kernel_rfl) rfl)
        have eg : a.eval (.tmp 53) = .bool false := (detV_at rfl).1 (hdep 4 (by decide))
        refine flat_go (t := 53) rfl rfl eg ?_
        obtain ⟨f2, f3, f5, f6, fg, fb, fr⟩ := HF.out W hW
        refine flat_run (u := .slice (some ⟨g, 0, none⟩) ns.length cl) ?_ ((detV_at rfl).2 rfl)
        simp [go_sem, e5, f5]
      refine ⟨fun a W hW hag hdep => ?_, ?_⟩
      · have e6 : a.tmps[6]?.getD undef = .pointer (some ⟨w7.heap.size, 0, none⟩) := evalD (hag.keep (t := 6) (by kernel_rfl) rfl)
        have eg : a.eval (.tmp 53) = .bool false := (detV_at rfl).1 (hdep 4 (by decide))
        refine flat_go (t := 53) rfl rfl eg ?_
        obtain ⟨f2, f3, f5, f6, fg, fb, fr⟩ := HF.out W hW
        refine flat_run (u := .int .i64 (pre.length : Int)) ?_ ((detV_at rfl).2 rfl)
        simp [go_sem, e6, f6]
      refine ⟨fun a W hW hag hdep => ?_, ?_⟩
      · have e55 : a.tmps[55]?.getD undef = .slice (some ⟨g, 0, none⟩) ns.length cl := evalD ((detV_at rfl).1 (hdep 6 (by decide)))
        have e56 : a.tmps[56]?.getD undef = .int .i64 (pre.length : Int) := evalD ((detV_at rfl).1 (hdep 7 (by decide)))
        have eg : a.eval (.tmp 53) = .bool false := (detV_at rfl).1 (hdep 4 (by decide))
        refine flat_go (t := 53) rfl rfl eg ?_
        obtain ⟨f2, f3, f5, f6, fg, fb, fr⟩ := HF.out W hW
        refine flat_run (u := .pointer (some ⟨g, pre.length, none⟩)) ?_ ((detV_at rfl).2 rfl)
        simp [go_sem, e55, e56, hlt']
      refine ⟨fun a W hW hag hdep => ?_, ?_⟩
      · have e57 : a.tmps[57]?.getD undef = .pointer (some ⟨g, pre.length, none⟩) := evalD ((detV_at rfl).1 (hdep 8 (by decide)))
        have eg : a.eval (.tmp 53) = .bool false := (detV_at rfl).1 (hdep 4 (by decide))
        refine flat_go (t := 53) rfl rfl eg ?_
        obtain ⟨f2, f3, f5, f6, fg, fb, fr⟩ := HF.out W hW
        refine flat_run (u := .string ⟨x.name.toArray⟩) ?_ ((detV_at rfl).2 rfl)
        simp [go_sem, e57, fg]
      refine ⟨fun a W hW hag hdep => ?_, ?_⟩
      · have e54 : a.tmps[54]?.getD undef = .string ⟨x.name.toArray⟩ := evalD ((detV_at rfl).1 (hdep 5 (by decide)))
        have e58 : a.tmps[58]?.getD undef = .string ⟨x.name.toArray⟩ := evalD ((detV_at rfl).1 (hdep 9 (by decide)))
        have eg : a.eval (.tmp 53) = .bool false := (detV_at rfl).1 (hdep 4 (by decide))
        refine flat_go (t := 53) rfl rfl eg ?_
        refine flat_run (u := .bool false) ?_ ((detV_at rfl).2 rfl)
        simp [go_sem, e54, e58]
      refine ⟨fun a W hW hag hdep => ?_, ?_⟩
      · have e53 : a.tmps[53]?.getD undef = .bool false := evalD ((detV_at rfl).1 (hdep 4 (by decide)))
        have e59 : a.tmps[59]?.getD undef = .bool false := evalD ((detV_at rfl).1 (hdep 10 (by decide)))
        refine flat_on rfl ?_
        refine flat_run (u := .bool false) ?_ ((detV_at rfl).2 rfl)
        simp [go_sem, e53, e59]
      refine ⟨fun a W hW hag hdep => ?_, ?_⟩
      · have e60 : a.tmps[60]?.getD undef = .bool false := evalD ((detV_at rfl).1 (hdep 11 (by decide)))
        refine flat_on rfl ?_
        refine flat_run (u := .bool false) ?_ ((detV_at rfl).2 rfl)
        simp [go_sem, e60]
      refine ⟨fun a W hW hag hdep => ?_, ?_⟩
      · have e8 : a.tmps[8]?.getD undef = .slice x.a x.bs.length x.c := evalD (hag.keep (t := 8) (by kernel_rfl) rfl)
        have eg : a.eval (.tmp 61) = .bool false := (detV_at rfl).1 (hdep 12 (by decide))
        refine flat_go (t := 61) rfl rfl eg ?_
        refine flat_run (u := .slice x.a x.bs.length x.c) ?_ ((detV_at rfl).2 rfl)
        simp [go_sem, e8]
      refine ⟨fun a W hW hag hdep => ?_, ?_⟩
      · have e62 : a.tmps[62]?.getD undef = .slice x.a x.bs.length x.c := evalD ((detV_at rfl).1 (hdep 13 (by decide)))
        have eg : a.eval (.tmp 61) = .bool false := (detV_at rfl).1 (hdep 12 (by decide))
        refine flat_go (t := 61) rfl rfl eg ?_
        obtain ⟨f2, f3, f5, f6, fg, fb, fr⟩ := HF.out W hW
        have hst := run_string_b W W.heap.size x.a x.bs.length x.c x.bs fr rfl
        refine flat_run (u := .string ⟨x.bs.toArray⟩) ?_ ((detV_at rfl).2 rfl)
        simp [go_sem, e62, hst]
      refine ⟨fun a W hW hag hdep => ?_, ?_⟩
      · have e3 : a.tmps[3]?.getD undef = .pointer (some ⟨w.heap.size + 1, 0, none⟩) := evalD (hag.keep (t := 3) (by kernel_rfl) rfl)
        have eg : a.eval (.tmp 61) = .bool false := (detV_at rfl).1 (hdep 12 (by decide))
        refine flat_go (t := 61) rfl rfl eg ?_
        obtain ⟨f2, f3, f5, f6, fg, fb, fr⟩ := HF.out W hW
        refine flat_run (u := .pointer (some ⟨r, 0, none⟩)) ?_ ((detV_at rfl).2 rfl)
        simp [go_sem, e3, f3]
      refine ⟨fun a W hW hag hdep => ?_, ?_⟩
      · have e7 : a.tmps[7]?.getD undef = .string ⟨x.name.toArray⟩ := evalD (hag.keep (t := 7) (by kernel_rfl) rfl)
        have eg : a.eval (.tmp 61) = .bool false := (detV_at rfl).1 (hdep 12 (by decide))
        refine flat_go (t := 61) rfl rfl eg ?_
        refine flat_run (u := .string ⟨x.name.toArray⟩) ?_ ((detV_at rfl).2 rfl)
        simp [go_sem, e7]
      refine ⟨fun a W hW hag hdep => ?_, ?_⟩
      · have e64 : a.tmps[64]?.getD undef = .pointer (some ⟨r, 0, none⟩) := evalD ((detV_at rfl).1 (hdep 15 (by decide)))
        have e65 : a.tmps[65]?.getD undef = .string ⟨x.name.toArray⟩ := evalD ((detV_at rfl).1 (hdep 16 (by decide)))
        have eg : a.eval (.tmp 61) = .bool false := (detV_at rfl).1 (hdep 12 (by decide))
        refine flat_go (t := 61) rfl rfl eg ?_
        obtain ⟨f2, f3, f5, f6, fg, fb, fr⟩ := HF.out W hW
        refine flat_call (f := 36) (args := #[.pointer (some ⟨r, 0, none⟩), .string ⟨x.name.toArray⟩]) (by simp [go_sem, e64, e65]) ((b_rbytes fb ⟨x.name.toArray⟩).mono ?_)
        rintro e W' ⟨a4, c4, rfl, ho4, hb4⟩
        refine ⟨_, rfl, hb4, (detV_some rfl).2 ⟨a4, c4, rfl, ?_⟩⟩
        exact ho4.lower (Below.size hW)
      refine ⟨fun a W hW hag hdep => ?_, ?_⟩
      · have eg : a.eval (.tmp 61) = .bool false := (detV_at rfl).1 (hdep 12 (by decide))
        refine flat_go (t := 61) rfl rfl eg ?_
        obtain ⟨a4, c4, e66, ho4⟩ := (detV_some rfl).1 (hdep 17 (by decide))
        have e66' : a.tmps[66]?.getD undef = .slice a4 (DiskM.old d x.name).1.length c4 := evalD e66
        have hst := run_string_b W W.heap.size a4 (DiskM.old d x.name).1.length c4 (DiskM.old d x.name).1 ho4.rd rfl
        rw [← HBS.out] at hst e66'
        refine flat_run (u := .string ⟨x.bs.toArray⟩) ?_ ((detV_at rfl).2 rfl)
        simp [go_sem, e66', hst]
      refine ⟨fun a W hW hag hdep => ?_, ?_⟩
      · have e63 : a.tmps[63]?.getD undef = .string ⟨x.bs.toArray⟩ := evalD ((detV_at rfl).1 (hdep 14 (by decide)))
        have e67 : a.tmps[67]?.getD undef = .string ⟨x.bs.toArray⟩ := evalD ((detV_at rfl).1 (hdep 18 (by decide)))
        have eg : a.eval (.tmp 61) = .bool false := (detV_at rfl).1 (hdep 12 (by decide))
        refine flat_go (t := 61) rfl rfl eg ?_
        refine flat_run (u := .bool false) ?_ ((detV_at rfl).2 rfl)
        simp [go_sem, e63, e67]
      refine ⟨fun a W hW hag hdep => ?_, ?_⟩
      · have e61 : a.tmps[61]?.getD undef = .bool false := evalD ((detV_at rfl).1 (hdep 12 (by decide)))
        have e68 : a.tmps[68]?.getD undef = .bool false := evalD ((detV_at rfl).1 (hdep 19 (by decide)))
        refine flat_on rfl ?_
        refine flat_run (u := .bool false) ?_ ((detV_at rfl).2 rfl)
        simp [go_sem, e61, e68]
      refine ⟨fun a W hW hag hdep => ?_, ?_⟩
      · have e69 : a.tmps[69]?.getD undef = .bool false := evalD ((detV_at rfl).1 (hdep 20 (by decide)))
        refine flat_on rfl ?_
        refine flat_run (u := .bool false) ?_ ((detV_at rfl).2 rfl)
        simp [go_sem, e69]
      refine ⟨fun a W hW hag hdep => ?_, ?_⟩
      · have e2 : a.tmps[2]?.getD undef = .pointer (some ⟨w.heap.size, 0, none⟩) := evalD (hag.keep (t := 2) (by kernel_rfl) rfl)
        have eg : a.eval (.tmp 70) = .bool false := (detV_at rfl).1 (hdep 21 (by decide))
        refine flat_go (t := 70) rfl rfl eg ?_
        obtain ⟨f2, f3, f5, f6, fg, fb, fr⟩ := HF.out W hW
        refine flat_run (u := .pointer (some ⟨p, 0, none⟩)) ?_ ((detV_at rfl).2 rfl)
        simp [go_sem, e2, f2]
      refine ⟨fun a W hW hag hdep => ?_, ?_⟩
      · have e7 : a.tmps[7]?.getD undef = .string ⟨x.name.toArray⟩ := evalD (hag.keep (t := 7) (by kernel_rfl) rfl)
        have eg : a.eval (.tmp 70) = .bool false := (detV_at rfl).1 (hdep 21 (by decide))
        refine flat_go (t := 70) rfl rfl eg ?_
        refine flat_run (u := .string ⟨x.name.toArray⟩) ?_ ((detV_at rfl).2 rfl)
        simp [go_sem, e7]
      refine ⟨fun a W hW hag hdep => ?_, ?_⟩
      · have e71 : a.tmps[71]?.getD undef = .pointer (some ⟨p, 0, none⟩) := evalD ((detV_at rfl).1 (hdep 22 (by decide)))
        have e72 : a.tmps[72]?.getD undef = .string ⟨x.name.toArray⟩ := evalD ((detV_at rfl).1 (hdep 23 (by decide)))
        have eg : a.eval (.tmp 70) = .bool false := (detV_at rfl).1 (hdep 21 (by decide))
        refine flat_go (t := 70) rfl rfl eg ?_
        obtain ⟨f2, f3, f5, f6, fg, fb, fr⟩ := HF.out W hW
        refine flat_call (f := 15) (args := #[.pointer (some ⟨p, 0, none⟩), .string ⟨x.name.toArray⟩]) (by simp [go_sem, e71, e72]) ((b_sure fb ⟨x.name.toArray⟩ HNML.out).mono ?_)
        rintro e W' ⟨rfl, rfl⟩
        exact ⟨_, rfl, Below.refl _ _, (detV_at rfl).2 rfl⟩
      refine ⟨fun a W hW hag hdep => ?_, ?_⟩
      · have e3 : a.tmps[3]?.getD undef = .pointer (some ⟨w.heap.size + 1, 0, none⟩) := evalD (hag.keep (t := 3) (by kernel_rfl) rfl)
        have eg : a.eval (.tmp 70) = .bool false := (detV_at rfl).1 (hdep 21 (by decide))
        refine flat_go (t := 70) rfl rfl eg ?_
        obtain ⟨f2, f3, f5, f6, fg, fb, fr⟩ := HF.out W hW
        refine flat_run (u := .pointer (some ⟨r, 0, none⟩)) ?_ ((detV_at rfl).2 rfl)
        simp [go_sem, e3, f3]
      refine ⟨fun a W hW hag hdep => ?_, ?_⟩
      · have e7 : a.tmps[7]?.getD undef = .string ⟨x.name.toArray⟩ := evalD (hag.keep (t := 7) (by kernel_rfl) rfl)
        have eg : a.eval (.tmp 70) = .bool false := (detV_at rfl).1 (hdep 21 (by decide))
        refine flat_go (t := 70) rfl rfl eg ?_
        refine flat_run (u := .string ⟨x.name.toArray⟩) ?_ ((detV_at rfl).2 rfl)
        simp [go_sem, e7]
      refine ⟨fun a W hW hag hdep => ?_, ?_⟩
      · have e74 : a.tmps[74]?.getD undef = .pointer (some ⟨r, 0, none⟩) := evalD ((detV_at rfl).1 (hdep 25 (by decide)))
        have e75 : a.tmps[75]?.getD undef = .string ⟨x.name.toArray⟩ := evalD ((detV_at rfl).1 (hdep 26 (by decide)))
        have eg : a.eval (.tmp 70) = .bool false := (detV_at rfl).1 (hdep 21 (by decide))
        refine flat_go (t := 70) rfl rfl eg ?_
        obtain ⟨f2, f3, f5, f6, fg, fb, fr⟩ := HF.out W hW
        refine flat_call (f := 37) (args := #[.pointer (some ⟨r, 0, none⟩), .string ⟨x.name.toArray⟩]) (by simp [go_sem, e74, e75]) ((b_rsure fb ⟨x.name.toArray⟩).mono ?_)
        rintro e W' ⟨rfl, rfl⟩
        exact ⟨_, rfl, Below.refl _ _, (detV_at rfl).2 rfl⟩
      refine ⟨fun a W hW hag hdep => ?_, ?_⟩
      · have e73 : a.tmps[73]?.getD undef = .int .i64 ((DiskM.old d x.name).2 : Nat) := evalD ((detV_at rfl).1 (hdep 24 (by decide)))
        have e76 : a.tmps[76]?.getD undef = .int .i64 ((DiskM.old d x.name).2 : Nat) := evalD ((detV_at rfl).1 (hdep 27 (by decide)))
        have eg : a.eval (.tmp 70) = .bool false := (detV_at rfl).1 (hdep 21 (by decide))
        refine flat_go (t := 70) rfl rfl eg ?_
        refine flat_run (u := .bool false) ?_ ((detV_at rfl).2 rfl)
        simp [go_sem, e73, e76]
      refine ⟨fun a W hW hag hdep => ?_, ?_⟩
      · have e70 : a.tmps[70]?.getD undef = .bool false := evalD ((detV_at rfl).1 (hdep 21 (by decide)))
        have e77 : a.tmps[77]?.getD undef = .bool false := evalD ((detV_at rfl).1 (hdep 28 (by decide)))
        refine flat_on rfl ?_
        refine flat_run (u := .bool false) ?_ ((detV_at rfl).2 rfl)
        simp [go_sem, e70, e77]
      exact trivial
    · intro vs W hW hvs
      have h29 : vs 29 = .bool false := (detV_at rfl).1 (hvs 29 (by decide))
      simp only [putAll, Act.put, List.setIfInBounds_toArray, List.set_cons_zero, List.set_cons_succ]
      rw [h29]
      obtain ⟨f2, f3, f5, f6, fg, fb, fr⟩ := HF.out W hW
      have hcW : Ctr W w7.heap.size pre.length := (Below.block hW _ (block_lt_of_cell HCT.out.box.1)).trans HCT.out
      have ff6 := hcW.box.2
      have HCW := Lib.hid hcW
      have HW : Hid (Below U.heap.size U W) := Lib.hid hW
      clear hvs h29 hW f2 f3 f5 fg fb fr hcW
      gi_wp2_with fail
      obtain ⟨e1, e2, e3⟩ := ctr_round (Bx := W9.heap.size) (p := p) (mb := mb) (ns := ns) HW.out HCW.out (by have := HML.out; omega)
      exact ⟨e1, e2, by rw [List.length_append]; exact e3, (Below.trans HBU.out (Below.mono HW.out HBU.out.size)).setCell (p := ⟨w7.heap.size, 0, none⟩) (Nat.le_refl _) _⟩
  case refine_4 =>
    rintro D ys U hD hys ⟨hctr, hbU⟩ hK
    have hyl : ys.length = ns.length := by rw [← hys]; simp
    rw [hyl] at hctr
    have hc6 := hctr.box.1
    have hc5 := (hbU.cell (p := ⟨w1.heap.size, 0, none⟩) l3).trans k3
    have hx4 := (hbU.block (w.heap.size + 1 + 1) l2).trans HK2.out
    have hc4 : U.cell? ⟨w.heap.size + 1 + 1, 0, none⟩ = some (.bool false) := cell_of_row _ _ 0 _ _ _ hx4
    have hf4 : U.frozen? ⟨w.heap.size + 1 + 1, 0, none⟩ = false := frozen_of_row _ _ 0 _ _ hx4
    have HBWU := Lib.hid (HBW7.out.trans (hbU.mono (Nat.le_of_lt l0)))
    have HKK := Lib.hid hK
    have hDw : w.heap.size ≤ D := by have := HS79.out; omega
    clear hctr hx4 hyl hys hK k0 k1 k3
    go_wp2_with fail
    have hK' := (KeepsOthers.setCell U ⟨w.heap.size + 1 + 1, 0, none⟩ (.bool true)).same D _ HKK.out rfl
    refine ⟨by simp, .inl ⟨_, _, rfl, run_takeDeferred hK', ?_⟩⟩
    have hc9 := cell_kept (World.cell?_setCell_same' U ⟨w.heap.size + 1 + 1, 0, none⟩ (.bool true) (by rw [hc4]; rfl)) (grownBy_putObj' _ D (.deferred none)) (fun r e => by cases e; exact ⟨_, hK', rfl⟩)
    refine ⟨.bool true, ?_, rfl, (HBWU.out.setCell (p := ⟨w.heap.size + 1 + 1, 0, none⟩) (by show w.heap.size ≤ w.heap.size + 1 + 1; omega) _).trans (belowK_b (w := w) (Nat.le_refl _) _ D _ _ hDw hK' rfl rfl)⟩
    simp [results, go_sem, hc9]
end Go.Proofs.YtopnhplacdbkdaaGreat
