/- The reference disk behind its pointer: a sorted slice of files, three cells each. Plain lemmas on worlds, no condition. -/
/- The walks of the reference disk's readers. Condition: the reference disk lies behind its pointer. -/
/- The walks of the reference disk's Sure, Bytes, Read. Condition: the reference disk lies behind its pointer. -/
/- The walks of the reference disk's told and List. Condition: the reference disk lies behind its pointer. -/
/- The walk of the reference disk's List. Condition: the reference disk lies behind its pointer. -/
/- The walk of the reference disk's maker. No condition. -/
import Derived.Test.YtopnhplacdbkdaaGreatRefDisk
import Derived.Test.YtopnhplacdbkdaaGreatDiskKept
namespace Go.Proofs.YtopnhplacdbkdaaGreat
open Go.RowKit DiskM

def refFile (x : Nm × FileV) : List Value := [.string ⟨x.1.toArray⟩, .slice x.2.a x.2.n x.2.c, .int .i64 (x.2.sure : Int)]
def refFiles (fv : FVs) : List Value := fv.flatMap refFile
def refCells (a : Option Addr) (n c : Nat) (L : Int) (d : DS) : Array Value := #[.slice a n c, .int .i64 (d.room : Int), .bool (decide (0 ≤ d.left)), .int .i64 L, .bool d.done, .bool d.down]
structure RefRaw (w : World) (fq : Nat → Prop) (r : Nat) (a : Option Addr) (n c : Nat) (L : Int) (fv : FVs) (d : DS) : Prop where
  cells : w.heap[r]? = some (.cells (refCells a n c L d) 50 (0, 0))
  left : 0 ≤ d.left → L = d.left
  row : Row w 0 79 3 a n c (refFiles fv)
  num : fv.length = n
  fqr : fq r
  fqa : ∀ x, a = some x → fq x.block
  rows : ∀ x ∈ fv, Fil w x.2.a x.2.n x.2.c x.2.bs ∧ ∀ ad, x.2.a = some ad → fq ad.block
  files : d.files = fv.map (onV FileV.abs)
  lt : ∀ k, fq k → k < w.heap.size
  ok : d.Ok
def RefAt (w : World) (fq : Nat → Prop) (r : Nat) (d : DS) : Prop := ∃ a n c L fv, RefRaw w fq r a n c L fv d
theorem refFiles_length (fv : FVs) : (refFiles fv).length = fv.length * 3 := by
  induction fv with
  | nil => rfl
  | cons x r ih => simp only [refFiles, List.flatMap_cons, List.length_append, refFile, List.length_cons, List.length_nil] at ih ⊢; omega
theorem refFiles_get : ∀ (fv : FVs) (i j : Nat) (x : Nm × FileV), fv[i]? = some x → j < 3 → (refFiles fv)[i * 3 + j]? = (refFile x)[j]?
  | y :: l, 0, j, x, h, hj => by
    simp only [List.getElem?_cons_zero, Option.some.injEq] at h
    subst h
    rw [Nat.zero_mul, Nat.zero_add]
    show (refFile y ++ refFiles l)[j]? = _
    rw [List.getElem?_append_left (by show j < 3; exact hj)]
  | y :: l, i + 1, j, x, h, hj => by
    rw [List.getElem?_cons_succ] at h
    have := refFiles_get l i j x h hj
    show (refFile y ++ refFiles l)[(i + 1) * 3 + j]? = _
    rw [List.getElem?_append_right (by show 3 ≤ _; omega), show (i + 1) * 3 + j - (refFile y).length = i * 3 + j by show (i + 1) * 3 + j - 3 = _; omega]
    exact this
section
variable {w w' : World} {fq : Nat → Prop} {r : Nat} {a : Option Addr} {n c : Nat} {L : Int} {fv : FVs} {d : DS}
theorem Row.keep {B : Nat} {e : TypeId} {k : Nat} {xs : List Value} (h : Row w B e k a n c xs) (hk : ∀ x, a = some x → w'.heap[x.block]? = w.heap[x.block]?) : Row w' B e k a n c xs := by
  refine ⟨h.1, ?_⟩
  rcases h.2 with h2 | ⟨g, cap, cur, hv, hg, hh, hr⟩
  · exact .inl h2
  · injection hv with e1
    exact .inr ⟨g, cap, cur, by rw [e1]; congr, hg, (hk _ e1).trans hh, hr⟩
theorem RefRaw.keep (h : RefRaw w fq r a n c L fv d) (hk : ∀ k, fq k → w'.heap[k]? = w.heap[k]?) (hs : w.heap.size ≤ w'.heap.size) : RefRaw w' fq r a n c L fv d :=
  ⟨(hk _ h.fqr).trans h.cells, h.left, h.row.keep fun x hx => hk _ (h.fqa x hx), h.num, h.fqr, h.fqa, fun x hx => ⟨(h.rows x hx).1.keep fun ad ha => hk _ ((h.rows x hx).2 ad ha), (h.rows x hx).2⟩, h.files, fun k hk' => Nat.lt_of_lt_of_le (h.lt k hk') hs, h.ok⟩
theorem RefAt.keep (h : RefAt w fq r d) (hk : ∀ k, fq k → w'.heap[k]? = w.heap[k]?) (hs : w.heap.size ≤ w'.heap.size) : RefAt w' fq r d := by
  obtain ⟨a, n, c, L, fv, h⟩ := h
  exact ⟨a, n, c, L, fv, h.keep hk hs⟩
theorem RefAt.lt (h : RefAt w fq r d) : ∀ k, fq k → k < w.heap.size := by
  obtain ⟨a, n, c, L, fv, h⟩ := h
  exact h.lt
theorem RefAt.ok (h : RefAt w fq r d) : d.Ok := by
  obtain ⟨a, n, c, L, fv, h⟩ := h
  exact h.ok
theorem RefAt.below (h : RefAt w fq r d) (hb : Below w.heap.size w w') : RefAt w' fq r d := h.keep (fun k hk => hb.block k (h.lt k hk)) hb.size
theorem RefAt.turn {fp : Nat → Prop} (h : RefAt w fq r d) (ht : Turn fp w w') (hd : ∀ k, fq k → ¬ fp k) : RefAt w' fq r d := h.keep (fun k hk => ht.block k (h.lt k hk) (hd k hk)) ht.size
/-- a field of a file -/
theorem RefRaw.at_ (h : RefRaw w fq r a n c L fv d) {i : Nat} {x : Nm × FileV} (hx : fv[i]? = some x) : ∃ g, a = some ⟨g, 0, none⟩ ∧ w.cell? ⟨g, i * 3, none⟩ = some (.string ⟨x.1.toArray⟩) ∧ w.cell? ⟨g, i * 3 + 1, none⟩ = some (.slice x.2.a x.2.n x.2.c) ∧ w.cell? ⟨g, i * 3 + 2, none⟩ = some (.int .i64 (x.2.sure : Int)) := by
  obtain ⟨g, e0, _, _, h0⟩ := h.row.at_ (refFiles_get fv i 0 x hx (by omega))
  obtain ⟨g1, e1, _, _, h1⟩ := h.row.at_ (refFiles_get fv i 1 x hx (by omega))
  obtain ⟨g2, e2, _, _, h2⟩ := h.row.at_ (refFiles_get fv i 2 x hx (by omega))
  rw [e0] at e1 e2
  injection e1 with e1; injection e1 with e1; subst e1
  injection e2 with e2; injection e2 with e2; subst e2
  exact ⟨g, e0, h0, h1, h2⟩
end
end Go.Proofs.YtopnhplacdbkdaaGreat
namespace Go.Proofs.YtopnhplacdbkdaaGreat
open Go.RowKit DiskM

/-- where a name stands -/
def IdxIs (fv : FVs) (k : Nm) (z : Int) : Prop := (∃ (i : Nat) (x : Nm × FileV), z = (i : Int) ∧ fv[i]? = some x ∧ x.1 = k) ∨ (z = -1 ∧ ∀ x ∈ fv, x.1 ≠ k)
theorem beq_dec' (a b : List UInt8) : (a == b) = decide (a = b) := by
  by_cases h : a = b
  · rw [decide_eq_true h, h]; simp
  · rw [decide_eq_false h]; simpa using h
set_option maxRecDepth 100000 in
set_option maxHeartbeats 1000000 in
theorem refat_any {w : World} {fq : Nat → Prop} {r : Nat} {a : Option Addr} {n c : Nat} {L : Int} {fv : FVs} {d : DS} (h : RefRaw w fq r a n c L fv d) (s : ByteArray) :
    Calls Tryz.prog 58 #[.pointer (some ⟨r, 0, none⟩), .string s] w fun e w' => (∃ z, e = .returned (.int .i64 z) ∧ IdxIs fv s.data.toList z) ∧ w = w' := by
  have hc0 : w.cell? ⟨r, 0, none⟩ = some (.slice a n c) := cell_of_row _ _ 0 _ _ _ h.cells
  have hnum := h.num
  have hn : n ≤ 1000000 := by have := h.ok.few; rw [h.files] at this; simp at this; omega
  have H := Lib.hid h
  clear h
  go_enter Tryz.func58, Tryz.ntmps58
  go_wp2_with fail
  go_loop [5] (fun v => ∃ i : Nat, v = .int .i64 i ∧ i ≤ n ∧ ∀ x ∈ fv.take i, x.1 ≠ s.data.toList) (fun v => n - (intOf v).toNat)
  case atStart => exact ⟨0, rfl, Nat.zero_le _, by simp⟩
  case round =>
    obtain ⟨i, rfl, hi, hnot⟩ := hrel
    have HNOT := Lib.hid hnot
    clear hnot
    by_cases hlt : i < n
    · obtain ⟨x, hx⟩ : ∃ x, fv[i]? = some x := ⟨_, List.getElem?_eq_getElem (by omega)⟩
      obtain ⟨g, rfl, g0, _, _⟩ := H.out.at_ hx
      have hlt' : (i : Int) < (n : Int) := by omega
      have HX := Lib.hid hx
      clear hx
      by_cases he : x.1 = s.data.toList
      · have hcmp : (x.1 == s.toList) = true := by rw [ByteArray.toList_eq, beq_dec']; exact decide_eq_true he
        have HE := Lib.hid he
        clear he
        go_wp2_with fail
        go_ret
        exact ⟨⟨_, rfl, .inl ⟨i, x, rfl, HX.out, HE.out⟩⟩, rfl⟩
      · have hcmp : (x.1 == s.toList) = false := by rw [ByteArray.toList_eq, beq_dec']; exact decide_eq_false he
        have HE := Lib.hid he
        clear he
        go_wp2_with fail
        go_round
        case rel => exact ⟨i + 1, by go_num, by omega, fun y hy => by
          rw [List.take_add_one, HX.out] at hy
          rcases List.mem_append.1 hy with h1 | h1
          · exact HNOT.out y h1
          · simp at h1; rw [h1]; exact HE.out⟩
        case measure => simp [intOf]; omega
    · obtain rfl : n = i := by omega
      go_wp2_with fail
      go_ret
      exact ⟨⟨_, rfl, .inr ⟨rfl, fun x hx => HNOT.out x (by rw [List.take_of_length_le (by omega)]; exact hx)⟩⟩, rfl⟩
theorem used_take (l : Files) (i : Nat) (p : Nm × (List UInt8 × Nat)) (h : l[i]? = some p) : used (l.take (i + 1)) = used (l.take i) + p.2.1.length := by
  unfold used
  rw [List.take_add_one, h, List.map_append, List.sum_append]
  simp
theorem used_take_le (l : Files) (i : Nat) : used (l.take i) ≤ used l := by
  conv => rhs; rw [← List.take_append_drop i l]
  unfold used
  rw [List.map_append, List.sum_append]; omega
set_option maxRecDepth 100000 in
set_option maxHeartbeats 1000000 in
theorem refused_any {w : World} {fq : Nat → Prop} {r : Nat} {d : DS} (h : RefAt w fq r d) :
    Calls Tryz.prog 32 #[.pointer (some ⟨r, 0, none⟩)] w fun e w' => e = .returned (.int .i64 (used d.files : Nat)) ∧ w = w' := by
  obtain ⟨a, n, c, L, fv, h⟩ := h
  have hc0 : w.cell? ⟨r, 0, none⟩ = some (.slice a n c) := cell_of_row _ _ 0 _ _ _ h.cells
  have hnum := h.num
  have hfl : d.files.length = n := by rw [h.files]; simpa using hnum
  have hn : n ≤ 1000000 := by have := h.ok.few; omega
  have hu := h.ok.used
  have H := Lib.hid h
  clear h
  go_enter Tryz.func32, Tryz.ntmps32
  go_wp2_with fail
  go_loop [3, 4] (fun u v => ∃ i : Nat, v = .int .i64 i ∧ i ≤ n ∧ u = .int .i64 (used (d.files.take i) : Nat)) (fun _ v => n - (intOf v).toNat)
  case atStart => exact ⟨0, rfl, Nat.zero_le _, rfl⟩
  case round =>
    obtain ⟨i, rfl, hi, rfl⟩ := hrel
    by_cases hlt : i < n
    · obtain ⟨x, hx⟩ : ∃ x, fv[i]? = some x := ⟨_, List.getElem?_eq_getElem (by omega)⟩
      obtain ⟨g, rfl, _, g1, _⟩ := H.out.at_ hx
      have hlt' : (i : Int) < (n : Int) := by omega
      have hfi : d.files[i]? = some (x.1, (x.2.bs, x.2.sure)) := by rw [H.out.files, List.getElem?_map, hx]; rfl
      have hst := used_take d.files i _ hfi
      have hle := used_take_le d.files (i + 1)
      have hbl : x.2.bs.length = x.2.n := (H.out.rows x (List.mem_of_getElem? hx)).1.1
      have hst' : used (d.files.take (i + 1)) = used (d.files.take i) + x.2.n := by rw [hst, ← hbl]
      have hw : IntKind.i64.wrap ((used (d.files.take i) : Int) + (x.2.n : Int)) = ((used (d.files.take (i + 1)) : Nat) : Int) := by rw [IntKind.wrap_i64]; omega
      have HST := Lib.hid hst'
      clear hx hfi hst hle hbl hst'
      go_wp2_with fail
      go_round
      case rel => exact ⟨i + 1, by go_num, by omega, rfl⟩
      case measure => simp [intOf]; omega
    · obtain rfl : n = i := by omega
      have hall : d.files.take n = d.files := List.take_of_length_le (by omega)
      have HA := Lib.hid hall
      clear hall
      go_wp2_with fail
      go_ret
      have e := HA.out
      exact ⟨by show Ending.returned (.int .i64 ((used (d.files.take n) : Nat) : Int)) = _; rw [e], rfl⟩
end Go.Proofs.YtopnhplacdbkdaaGreat
namespace Go.Proofs.YtopnhplacdbkdaaGreat
open Go.RowKit DiskM

section
variable {w : World} {fq : Nat → Prop} {r : Nat} {a : Option Addr} {n c : Nat} {L : Int} {fv : FVs} {d : DS} {k : Nm}
theorem RefRaw.look_in (h : RefRaw w fq r a n c L fv d) {i : Nat} {x : Nm × FileV} (hx : fv[i]? = some x) : DiskM.look x.1 d.files = some x.2.abs := by
  refine look_of_mem h.ok.rising.apart ?_
  rw [h.files]
  exact List.mem_map.2 ⟨x, List.mem_of_getElem? hx, rfl⟩
theorem RefRaw.look_no (h : RefRaw w fq r a n c L fv d) (hk : ∀ x ∈ fv, x.1 ≠ k) : DiskM.look k d.files = none := by
  cases hl : DiskM.look k d.files with
  | none => rfl
  | some v =>
    have := look_mem hl
    rw [h.files] at this
    obtain ⟨x, hx, e⟩ := List.mem_map.1 this
    injection e with e _
    exact absurd e (hk x hx)
theorem old_in {v : List UInt8 × Nat} (h : DiskM.look k d.files = some v) : DiskM.old d k = v := by unfold DiskM.old; rw [h]; rfl
theorem old_no (h : DiskM.look k d.files = none) : DiskM.old d k = ([], 0) := by unfold DiskM.old; rw [h]; rfl
theorem read_down' (h : d.down = true) (k : Nm) : DiskM.read d k = ([], 15) := by unfold DiskM.read; rw [if_pos h]
theorem has_in {v : List UInt8 × Nat} (h : DiskM.look k d.files = some v) : DiskM.has d k = 0 := by unfold DiskM.has; rw [h]; rfl
theorem has_no (h : DiskM.look k d.files = none) : DiskM.has d k = 12 := by unfold DiskM.has; rw [h]; rfl
end

set_option maxRecDepth 100000 in
set_option maxHeartbeats 1000000 in
theorem refsure_any {w : World} {fq : Nat → Prop} {r : Nat} {d : DS} (h : RefAt w fq r d) (s : ByteArray) :
    Calls Tryz.prog 37 #[.pointer (some ⟨r, 0, none⟩), .string s] w fun e w' => e = .returned (.int .i64 ((DiskM.old d s.data.toList).2 : Nat)) ∧ w = w' := by
  obtain ⟨a, n, c, L, fv, h⟩ := h
  have hc0 : w.cell? ⟨r, 0, none⟩ = some (.slice a n c) := cell_of_row _ _ 0 _ _ _ h.cells
  have H := Lib.hid h
  have hnum := h.num
  clear h
  go_enter Tryz.func37, Tryz.ntmps37
  go_wp2_with fail
  refine (refat_any H.out s).mono ?_
  rintro e w' ⟨⟨z, rfl, hz⟩, rfl⟩
  rcases hz with ⟨i, x, rfl, hx, hk⟩ | ⟨rfl, hno⟩
  · obtain ⟨g, rfl, _, _, g2⟩ := H.out.at_ hx
    have hlt : (i : Int) < (n : Int) := by have := (List.getElem?_eq_some_iff.1 hx).1; omega
    have HO := Lib.hid (show DiskM.old d s.data.toList = x.2.abs from old_in (hk ▸ H.out.look_in hx))
    clear hx hk
    go_wp2_with fail
    go_ret
    rw [HO.out]
    exact ⟨rfl, rfl⟩
  · have HO := Lib.hid (old_no (H.out.look_no hno))
    clear hno
    go_wp2_with fail
    go_ret
    rw [HO.out]
    exact ⟨rfl, rfl⟩

set_option maxRecDepth 100000 in
set_option maxHeartbeats 1000000 in
theorem refbytes_any {w : World} {fq : Nat → Prop} {r : Nat} {d : DS} (h : RefAt w fq r d) (s : ByteArray) :
    Calls Tryz.prog 36 #[.pointer (some ⟨r, 0, none⟩), .string s] w fun e w' => ∃ a c, e = .returned (.slice a (DiskM.old d s.data.toList).1.length c) ∧ Own w' w.heap.size a (DiskM.old d s.data.toList).1.length c (DiskM.old d s.data.toList).1 ∧ Below w.heap.size w w' := by
  obtain ⟨a, n, c, L, fv, h⟩ := h
  have hc0 : w.cell? ⟨r, 0, none⟩ = some (.slice a n c) := cell_of_row _ _ 0 _ _ _ h.cells
  have H := Lib.hid h
  have hnum := h.num
  clear h
  go_enter Tryz.func36, Tryz.ntmps36
  go_wp2_with fail
  refine (refat_any H.out s).mono ?_
  rintro e w' ⟨⟨z, rfl, hz⟩, rfl⟩
  rcases hz with ⟨i, x, rfl, hx, hk⟩ | ⟨rfl, hno⟩
  · obtain ⟨g, rfl, _, g1, _⟩ := H.out.at_ hx
    have hlt : (i : Int) < (n : Int) := by have := (List.getElem?_eq_some_iff.1 hx).1; omega
    have hf := (H.out.rows x (List.mem_of_getElem? hx)).1
    have hus := old_used H.out.ok s.data.toList
    have hu2 := H.out.ok.used
    have ho : DiskM.old d s.data.toList = x.2.abs := old_in (hk ▸ H.out.look_in hx)
    rw [ho] at hus
    have hfl : x.2.bs.length = x.2.n := hf.1
    have hfn : x.2.n ≤ 16777216 := by have : x.2.bs.length ≤ used d.files := hus; omega
    have HO := Lib.hid ho
    have HFL := Lib.hid hfl
    have hlx := Own.lit (B := w.heap.size) (bs := []) w (Nat.le_refl _) #[] rfl (by simp)
    have hbx : Below w.heap.size w (w.alloc (.cells #[] 5)) := (Below.refl _ _).alloc (Nat.le_refl _) _
    have g1x := (hbx.cell (p := ⟨g, i * 3 + 1, none⟩) (block_lt_of_cell g1)).trans g1
    have hc0x := (hbx.cell (p := ⟨r, 0, none⟩) (block_lt_of_cell hc0)).trans hc0
    have hrx : Rd (w.alloc (.cells #[] 5)) w.heap.size x.2.a x.2.bs := hf.rd.below hbx
    clear hx hk ho hfl hf hus
    go_wp2_with (first
      | (at_builtin; refine wpList_append_b rfl (.tmp 11) (.tmp 19) rfl w _ w.heap.size hbx (by simp) _ 0 0 [] rfl hlx _ x.2.a x.2.n x.2.c x.2.bs rfl hrx HFL.out x.2.n (by omega) (by omega) ?_; intro a4 c4 w4 ho4 hg4 hb4 hat4))
    go_ret
    rw [HO.out]
    refine ⟨a4, c4, ?_, ?_, hb4⟩
    · show Ending.returned (.slice a4 x.2.n c4) = .returned (.slice a4 x.2.bs.length c4)
      rw [HFL.out]
    · show Own w4 w.heap.size a4 x.2.bs.length c4 x.2.bs
      rw [HFL.out]; rw [List.nil_append] at ho4; exact ho4
  · have HO := Lib.hid (old_no (H.out.look_no hno))
    clear hno
    go_wp2_with fail
    go_ret
    rw [HO.out]
    exact ⟨none, 0, rfl, Own.nil_ _ _, Below.refl _ _⟩

set_option maxRecDepth 100000 in
set_option maxHeartbeats 1000000 in
theorem refread_any {w : World} {fq : Nat → Prop} {r : Nat} {d : DS} (h : RefAt w fq r d) (s : ByteArray) :
    Calls Tryz.prog 54 #[.pointer (some ⟨r, 0, none⟩), .string s] w (BytesIs w (DiskM.read d s.data.toList)) := by
  obtain ⟨a, n, c, L, fv, h⟩ := h
  have hc5 : w.cell? ⟨r, 5, none⟩ = some (.bool d.down) := cell_of_row _ _ 5 _ _ _ h.cells
  have H := Lib.hid h
  clear h
  by_cases hdn : d.down = true
  · have HR := Lib.hid (show DiskM.read d s.data.toList = ([], 15) from read_down' hdn _)
    rw [hdn] at hc5
    clear hdn
    go_enter Tryz.func54, Tryz.ntmps54
    go_wp2_with fail
    go_ret2
    rw [HR.out]
    exact ⟨none, 0, rfl, Own.nil_ _ _, Below.refl _ _⟩
  have hdn' : d.down = false := by simpa using hdn
  rw [hdn'] at hc5
  go_enter Tryz.func54, Tryz.ntmps54
  go_wp2_with fail
  refine (refat_any H.out s).mono ?_
  rintro e w' ⟨⟨z, rfl, hz⟩, rfl⟩
  rcases hz with ⟨i, x, rfl, hx, hk⟩ | ⟨rfl, hno⟩
  · have HR := Lib.hid (show DiskM.read d s.data.toList = ((DiskM.old d s.data.toList).1, 0) by unfold DiskM.read; rw [if_neg hdn, if_pos (has_in (hk ▸ H.out.look_in hx))])
    have hz' : ¬ ((i : Int) < 0) := by omega
    clear hx hk hdn hdn'
    go_wp2_with fail
    refine (refbytes_any ⟨_, _, _, _, _, H.out⟩ s).mono ?_
    rintro e w1 ⟨a1, c1, rfl, ho1, hb1⟩
    go_wp2_with fail
    go_ret2
    rw [HR.out]
    exact ⟨a1, c1, rfl, ho1, hb1⟩
  · have HR := Lib.hid (show DiskM.read d s.data.toList = ([], 12) by unfold DiskM.read; rw [if_neg hdn, if_neg (by rw [has_no (H.out.look_no hno)]; decide)])
    clear hno hdn hdn'
    go_wp2_with fail
    go_ret2
    rw [HR.out]
    exact ⟨none, 0, rfl, Own.nil_ _ _, Below.refl _ _⟩
end Go.Proofs.YtopnhplacdbkdaaGreat
namespace Go.Proofs.YtopnhplacdbkdaaGreat
open Go.RowKit DiskM

theorem told_any (on : Bool) (w : World) : Calls Tryz.prog 60 #[.bool on] w fun e w' => e = .returned (.int .i64 ((if on then 0 else 15 : Nat) : Int)) ∧ w = w' := by
  cases on
  · go_enter Tryz.func60, Tryz.ntmps60
    go_wp2_with fail
    go_ret
    exact ⟨rfl, rfl⟩
  · go_enter Tryz.func60, Tryz.ntmps60
    go_wp2_with fail
    go_ret
    exact ⟨rfl, rfl⟩

/-- a field is written -/
theorem RefRaw.setF {w : World} {fq : Nat → Prop} {r : Nat} {a : Option Addr} {n c : Nat} {L L' : Int} {fv : FVs} {d d' : DS} (h : RefRaw w fq r a n c L fv d) (j : Nat) (v : Value) (hv : (refCells a n c L d).setIfInBounds j v = refCells a n c L' d') (hl : 0 ≤ d'.left → L' = d'.left) (hf : d'.files = d.files) (hok : d'.Ok) : RefRaw (w.setCell ⟨r, j, none⟩ v) fq r a n c L' fv d' := by
  have hoth : ∀ (k : Nat) (cs : Array Value) (t : TypeId) (f : Nat × Nat), w.heap[k]? = some (Obj.cells cs t f) → t ≠ 50 → (w.setCell ⟨r, j, none⟩ v).heap[k]? = w.heap[k]? := fun k cs t f hk ht => Below.heap_setCell _ _ _ _ (fun e => by
    have e' : k = r := e
    rw [e', h.cells] at hk
    injection hk with hk
    injection hk with _ hk _
    exact ht hk.symm)
  refine ⟨?_, hl, h.row.keep fun x hx => ?_, h.num, h.fqr, h.fqa, fun x hx => ⟨(h.rows x hx).1.keep fun ad ha => ?_, (h.rows x hx).2⟩, hf.trans h.files, fun k hk => by simpa [World.setCell] using h.lt k hk, hok⟩
  · have := heap_setCell_same w r j _ _ v h.cells
    rw [hv] at this; exact this
  · rcases h.row.form with ⟨h0, _⟩ | ⟨g, cur, e1, _, _, hh, _⟩
    · rw [h0] at hx; cases hx
    · rw [e1] at hx; injection hx with hx; subst hx
      exact hoth _ _ _ _ hh (by decide)
  · obtain ⟨cur, hh⟩ := (h.rows x hx).1.cellsAt ad ha
    exact hoth _ _ _ _ hh (by decide)

theorem gone_neg {d : DS} (h : d.left < 0) : gone d = d := by unfold gone; rw [if_pos h]
theorem gone_more {d : DS} (h : 0 < d.left) : gone d = { d with left := d.left - 1 } := by unfold gone; rw [if_neg (by omega), if_pos h]
theorem gone_last {d : DS} (h : d.left = 0) : gone d = { d with left := -1, down := true } := by unfold gone; rw [if_neg (by omega), if_neg (by omega)]
set_option maxRecDepth 100000 in
set_option maxHeartbeats 1000000 in
theorem refpower_any {w : World} {fq : Nat → Prop} {r : Nat} {a : Option Addr} {n c : Nat} {L : Int} {fv : FVs} {d : DS} (h : RefRaw w fq r a n c L fv d) (always : Bool) :
    Calls Tryz.prog 57 #[.pointer (some ⟨r, 0, none⟩), .bool always] w fun e w' => e = .returned (.tuple #[.bool (goes d || (always || d.done)), .bool (goes d)]) ∧ (∃ L', RefRaw w' fq r a n c L' fv (gone d)) ∧ Turn fq w w' := by
  have c2 : w.cell? ⟨r, 2, none⟩ = some (.bool (decide (0 ≤ d.left))) := cell_of_row _ _ 2 _ _ _ h.cells
  have c3 : w.cell? ⟨r, 3, none⟩ = some (.int .i64 L) := cell_of_row _ _ 3 _ _ _ h.cells
  have f3 : w.frozen? ⟨r, 3, none⟩ = false := frozen_of_row _ _ 3 _ _ h.cells
  have hl0 := h.ok.left0
  have hl1 := h.ok.left1
  rcases (by omega : d.left < 0 ∨ 0 < d.left ∨ d.left = 0) with h1 | h1 | h1
  · have HG := Lib.hid (gone_neg h1)
    have HO := Lib.hid (show goes d = true by unfold goes; exact decide_eq_true (by omega))
    have H := Lib.hid h
    rw [decide_eq_false (by omega)] at c2
    clear h h1
    go_enter Tryz.func57, Tryz.ntmps57
    go_wp2_with fail
    go_ret2
    rw [HO.out, HG.out]
    exact ⟨rfl, ⟨L, H.out⟩, Turn.refl _ _⟩
  · have hL := h.left (by omega)
    have HO := Lib.hid (show goes d = true by unfold goes; exact decide_eq_true (by omega))
    have HG := Lib.hid (gone_more h1)
    have HW := Lib.hid (h.setF (L' := L - 1) (d' := gone d) 3 (.int .i64 (L - 1)) (by rw [gone_more h1]; simp [refCells, show (0 : Int) ≤ d.left by omega]; omega) (fun _ => by rw [gone_more h1, hL]) (gone_files d).1 (gone_ok h.ok))
    have HF := Lib.hid h.fqr
    rw [decide_eq_true (by omega)] at c2
    have hp : (0 : Int) < L := by omega
    have hw : IntKind.i64.wrap (L - 1) = L - 1 := by rw [IntKind.wrap_i64]; omega
    clear h h1 hL
    go_enter Tryz.func57, Tryz.ntmps57
    go_wp2_with fail
    go_ret2
    rw [HO.out]
    exact ⟨rfl, ⟨_, HW.out⟩, Turn.setCell fq w (p := ⟨r, 3, none⟩) HF.out _⟩
  · have HO := Lib.hid (show goes d = false by unfold goes; exact decide_eq_false (by omega))
    have hL : L = 0 := (h.left (by omega)).trans h1
    have HG := Lib.hid (gone_last h1)
    have hw1 := h.setF (L' := L) (d' := { d with left := -1 }) 2 (.bool false) (by simp [refCells]) (fun h => by have h' : (0 : Int) ≤ -1 := h; omega) rfl ⟨h.ok.room, h.ok.used, by show (-1 : Int) ≤ -1; omega, by show (-1 : Int) ≤ _; omega, h.ok.sure, h.ok.name, h.ok.few, h.ok.rising⟩
    have hw2 := hw1.setF (L' := L) (d' := gone d) 5 (.bool true) (by rw [gone_last h1]; simp [refCells]) (fun h => by rw [gone_last h1] at h; have h' : (0 : Int) ≤ -1 := h; omega) (by rw [gone_last h1]) (gone_ok h.ok)
    have HW := Lib.hid hw2
    have HF := Lib.hid h.fqr
    rw [decide_eq_true (by omega)] at c2
    have f2 : w.frozen? ⟨r, 2, none⟩ = false := frozen_of_row _ _ 2 _ _ h.cells
    have c5 : (w.setCell ⟨r, 2, none⟩ (.bool false)).cell? ⟨r, 5, none⟩ = some (.bool d.down) := cell_of_row _ _ 5 _ _ _ hw1.cells
    have f5 : (w.setCell ⟨r, 2, none⟩ (.bool false)).frozen? ⟨r, 5, none⟩ = false := frozen_of_row _ _ 5 _ _ hw1.cells
    have c4 : ((w.setCell ⟨r, 2, none⟩ (.bool false)).setCell ⟨r, 5, none⟩ (.bool true)).cell? ⟨r, 4, none⟩ = some (.bool d.done) := by
      have := cell_of_row _ _ 4 _ _ _ hw2.cells
      rw [this, gone_last h1]; rfl
    subst hL
    have hp : ¬ ((0 : Int) < 0) := by omega
    clear h h1 hw1 hw2
    cases always
    · go_enter Tryz.func57, Tryz.ntmps57
      go_wp2_with fail
      go_ret2
      rw [HO.out]
      exact ⟨rfl, ⟨_, HW.out⟩, (Turn.setCell fq w (p := ⟨r, 2, none⟩) HF.out _).trans0 (Turn.setCell fq _ (p := ⟨r, 5, none⟩) HF.out _)⟩
    · go_enter Tryz.func57, Tryz.ntmps57
      go_wp2_with fail
      go_ret2
      rw [HO.out]
      exact ⟨rfl, ⟨_, HW.out⟩, (Turn.setCell fq w (p := ⟨r, 2, none⟩) HF.out _).trans0 (Turn.setCell fq _ (p := ⟨r, 5, none⟩) HF.out _)⟩
end Go.Proofs.YtopnhplacdbkdaaGreat
namespace Go.Proofs.YtopnhplacdbkdaaGreat
open Go.RowKit DiskM
theorem info_str : (Tryz.prog.info? 9).map (fun i => (i.zero, i.size, i.bytes)) = some (some (.string .empty), 1, 16) := by kernel_rfl
theorem info_parts' {o : Option TypeInfo} {z : Value} {k b : Nat} (h : o.map (fun i => (i.zero, i.size, i.bytes)) = some (some z, k, b)) : ∃ i, o = some i ∧ i.zero = some z ∧ i.size = k ∧ i.bytes = b := by
  cases o with
  | none => cases h
  | some i => simp only [Option.map_some, Option.some.injEq, Prod.mk.injEq] at h; exact ⟨i, rfl, h.1, h.2.1, h.2.2⟩
set_option maxRecDepth 100000 in
set_option maxHeartbeats 1000000 in
theorem reflist_any {w : World} {fq : Nat → Prop} {r : Nat} {d : DS} (h : RefAt w fq r d) :
    Calls Tryz.prog 29 #[.pointer (some ⟨r, 0, none⟩)] w (NamesIs w (namesOf d)) := by
  obtain ⟨a, n, c, L, fv, h⟩ := h
  have hc0 : w.cell? ⟨r, 0, none⟩ = some (.slice a n c) := cell_of_row _ _ 0 _ _ _ h.cells
  have hnum := h.num
  have hn : n ≤ 1000000 := by have := h.ok.few; rw [h.files] at this; simp at this; omega
  have hns : namesOf d = fv.map (·.1) := by unfold namesOf; rw [h.files, List.map_map]; rfl
  have HNS := Lib.hid hns
  have H := Lib.hid h
  obtain ⟨i1, hi1, hz1, hs1, hb1⟩ := info_parts' info_str
  have HI1 := Lib.hid (And.intro hi1 (And.intro hz1 (And.intro hs1 hb1)))
  clear hi1 hz1 hs1 hb1 h hns
  go_enter Tryz.func29, Tryz.ntmps29
  go_wp2_with fail
  go_loopw [3, 4] (fun u v wr => ∃ (i : Nat) (ao : Option Addr) (co : Nat), v = .int .i64 i ∧ i ≤ n ∧ u = .slice ao i co ∧ Row wr w.heap.size 9 1 ao i co ((fv.take i).map fun x => encStr x.1) ∧ Below w.heap.size w wr) (fun _ v _ => n - (intOf v).toNat)
  case atStart => exact ⟨0, none, 0, rfl, Nat.zero_le _, rfl, Row.nil_ _ _ _ _, Below.refl _ _⟩
  case round =>
    obtain ⟨i, ao, co, rfl, hi, rfl, hrow, hbel⟩ := hrel
    have hcr : wr.cell? ⟨r, 0, none⟩ = some (.slice a n c) := (hbel.cell (p := ⟨r, 0, none⟩) (block_lt_of_cell hc0)).trans hc0
    by_cases hlt : i < n
    · obtain ⟨x, hx⟩ : ∃ x, fv[i]? = some x := ⟨_, List.getElem?_eq_getElem (by omega)⟩
      obtain ⟨g, rfl, g0, _, _⟩ := H.out.at_ hx
      have g0r := (hbel.cell (p := ⟨g, i * 3, none⟩) (block_lt_of_cell g0)).trans g0
      have hlt' : (i : Int) < (n : Int) := by omega
      have one1 : ∀ u ∈ [Value.string ⟨x.1.toArray⟩], u.oneCell' = true := by intro u hu; rw [List.mem_singleton.1 hu]; rfl
      have hba : Below w.heap.size w (wr.alloc (.cells #[.string ⟨x.1.toArray⟩] 9)) := hbel.alloc hbel.size _
      have hra := hrow.alloc (.cells #[.string ⟨x.1.toArray⟩] 9)
      have q1 : i + 1 ≤ 9223372036854775807 := by omega
      have q2 : (i + 1) * 16 ≤ 140737488355328 := by omega
      have HX := Lib.hid hx
      clear hx hrow hbel g0 hc0
      go_wp2_with (first
        | (at_builtin; refine wpList_append_row rfl (.tmp 14) (.tmp 23) 41 rfl w _ 9 i1 _ 1 16 Tryz.underlying41 HI1.out.1 HI1.out.2.1 HI1.out.2.2.1 HI1.out.2.2.2 rfl (Nat.lt_succ_self 0) w.heap.size hba hba.size ao i co _ rfl hra ⟨wr.heap.size, 0, none⟩ 1 1 [.string ⟨x.1.toArray⟩] rfl rfl (cell_one_new _ _ _) one1 (i + 1) rfl q1 q2 ?_; intro a3 c3 w3 ho3 hg3 hb3 hat3))
      go_roundw
      case rel => exact ⟨i + 1, a3, c3, by go_num, by omega, rfl, by rw [List.take_add_one, HX.out, List.map_append]; exact ho3, hb3⟩
      case measure => simp [intOf]; omega
    · obtain rfl : n = i := by omega
      have hall : fv.take n = fv := List.take_of_length_le (by omega)
      have HA := Lib.hid hall
      clear hall
      go_wp2_with fail
      go_ret
      have e : (namesOf d).length = n := by rw [HNS.out]; simpa using hnum
      have e2 : (fv.take n).map (fun x => encStr x.1) = (namesOf d).map encStr := by rw [HA.out, HNS.out, List.map_map]; rfl
      refine ⟨ao, co, by rw [e]; rfl, ?_, hbel⟩
      rw [e, ← e2]; exact hrow
end Go.Proofs.YtopnhplacdbkdaaGreat
namespace Go.Proofs.YtopnhplacdbkdaaGreat
open Go.RowKit DiskM
theorem refnew_any (n : Int) (w : World) : Calls Tryz.prog 7 #[.int .i64 n] w fun e w' => ∃ r fq, e = .returned (.pointer (some ⟨r, 0, none⟩)) ∧ RefAt w' fq r (fresh n) ∧ (∀ k, fq k → w.heap.size ≤ k) ∧ Below w.heap.size w w' := by
  go_enter Tryz.func7, Tryz.ntmps7
  go_wp2_with fail
  refine (refroom_any n w).mono ?_
  rintro e w' ⟨rfl, rfl⟩
  go_wp2_with fail
  go_ret
  refine ⟨w.heap.size, fun k => k = w.heap.size, rfl, ⟨none, 0, 0, 0, [], ⟨heap_alloc_new _ _, fun h => (by have h' : (0 : Int) ≤ -1 := h; omega), Row.nil_ _ _ _ _, rfl, rfl, (fun x hx => by cases hx), (fun x hx => by cases hx), rfl, (fun k hk => by rw [hk]; simp), fresh_ok n⟩⟩, (fun k hk => by rw [hk]; exact Nat.le_refl _), (Below.refl _ _).alloc (Nat.le_refl _) _⟩
end Go.Proofs.YtopnhplacdbkdaaGreat
