/- Words on memory for the disk: a map of files, a file's row, the disk behind its pointer; what turns. Plain lemmas on worlds, no condition. -/
import Derived.Test.YtopnhplacdbkdaaGreatDiskM
import Derived.Test.YtopnhplacdbkdaaGreatRow
import Derived.Maps.OwnSet
import Derived.Maps.OwnOps
namespace Go.Proofs.YtopnhplacdbkdaaGreat
open Go.RowKit

/-- only the blocks of fp, and new ones, have turned -/
structure Turn (fp : Nat → Prop) (w w' : World) : Prop where
  os : w'.os = w.os
  tape : w'.tape = w.tape
  output : w'.output = w.output
  size : w.heap.size ≤ w'.heap.size
  block : ∀ k, k < w.heap.size → ¬ fp k → w'.heap[k]? = w.heap[k]?
section
variable {fp fp' : Nat → Prop} {w w' w'' : World} {B : Nat}
theorem Turn.refl (fp : Nat → Prop) (w : World) : Turn fp w w := ⟨rfl, rfl, rfl, Nat.le_refl _, fun _ _ _ => rfl⟩
theorem Turn.trans (h : Turn fp w w') (h' : Turn fp' w' w'') (hs : ∀ k, k < w.heap.size → fp' k → fp k) : Turn fp w w'' :=
  ⟨h'.os.trans h.os, h'.tape.trans h.tape, h'.output.trans h.output, Nat.le_trans h.size h'.size, fun k hk hn => (h'.block k (Nat.lt_of_lt_of_le hk h.size) (fun e => hn (hs k hk e))).trans (h.block k hk hn)⟩
theorem Turn.trans0 (h : Turn fp w w') (h' : Turn fp w' w'') : Turn fp w w'' := h.trans h' fun _ _ h => h
theorem Turn.of_below (h : Below w.heap.size w w') (fp : Nat → Prop) : Turn fp w w' := ⟨h.os, h.tape, h.output, h.size, fun k hk _ => h.block k hk⟩
theorem Turn.of_grown {row : Option Nat} (h : w.grownBy w' row) (hr : ∀ r, row = some r → r < w.heap.size → fp r) : Turn fp w w' :=
  ⟨h.os, h.tape, h.output, h.size, fun k hk hn => h.block k hk (fun e => hn (hr k e.symm hk))⟩
theorem Turn.more (h : Turn fp w w') (hs : ∀ k, k < w.heap.size → fp k → fp' k) : Turn fp' w w' := ⟨h.os, h.tape, h.output, h.size, fun k hk hn => h.block k hk (fun e => hn (hs k hk e))⟩
theorem Turn.setCell (fp : Nat → Prop) (w : World) {p : Addr} (hp : fp p.block) (v : Value) : Turn fp w (w.setCell p v) :=
  ⟨rfl, rfl, rfl, by simp [World.setCell], fun k _ hn => Below.heap_setCell _ _ _ _ (fun e => hn (by rw [e]; exact hp))⟩
theorem Turn.drewN (h : Turn fp w w') (k : Nat) : Turn fp w (w'.drewN k) := ⟨h.os, h.tape, h.output, h.size, h.block⟩
theorem Turn.drew (h : Turn fp w w') : Turn fp w w'.drew := ⟨h.os, h.tape, h.output, h.size, h.block⟩
theorem Below.turn (h : Below B w w') (h' : Turn fp w' w'') (hB : B ≤ w'.heap.size) (hf : ∀ k, fp k → B ≤ k) : Below B w w'' :=
  h.trans ⟨h'.os, h'.tape, h'.output, h'.size, fun k hk => h'.block k (by omega) (fun e => by have := hf k e; omega)⟩
theorem Turn.cell (h : Turn fp w w') {p : Addr} (hp : p.block < w.heap.size) (hn : ¬ fp p.block) : w'.cell? p = w.cell? p := World.cell?_of_block (h.block _ hp hn)
theorem Turn.frozen (h : Turn fp w w') {p : Addr} (hp : p.block < w.heap.size) (hn : ¬ fp p.block) : w'.frozen? p = w.frozen? p := World.frozen?_of_block (h.block _ hp hn)
end
theorem Own.turn {fp : Nat → Prop} {w w' : World} {B : Nat} {a : Option Addr} {n c : Nat} {bs : List UInt8} (h : Own w B a n c bs) (ht : Turn fp w w') (hn : ∀ x, a = some x → ¬ fp x.block) : Own w' B a n c bs := by
  refine ⟨h.1, ?_⟩
  rcases h.2 with h2 | ⟨g, cap, cur, hv, hB, hh, hr⟩
  · exact .inl h2
  · refine .inr ⟨g, cap, cur, hv, hB, (ht.block g (Array.getElem?_eq_some_iff.1 hh).1 ?_).trans hh, hr⟩
    injection hv with e1
    exact hn _ e1
theorem Own.apart {fp : Nat → Prop} {w : World} {B : Nat} {a : Option Addr} {n c : Nat} {bs : List UInt8} (h : Own w B a n c bs) (hf : ∀ k, fp k → k < B) : ∀ x, a = some x → ¬ fp x.block := by
  intro x hx hp
  rcases h.form with ⟨h0, _⟩ | ⟨g, cur, e, hB, _⟩
  · rw [h0] at hx; cases hx
  · rw [e] at hx; injection hx with hx; subst hx
    have := hf _ hp
    exact Nat.lt_irrefl _ (Nat.lt_of_lt_of_le this hB)
theorem Rd.turn {fp : Nat → Prop} {w w' : World} {B : Nat} {a : Option Addr} {bs : List UInt8} (h : Rd w B a bs) (ht : Turn fp w w') (hB : B ≤ w.heap.size) (hn : ∀ x, a = some x → ¬ fp x.block) : Rd w' B a bs := by
  rcases h with rfl | ⟨b, o, rfl, hb, hc⟩
  · exact .inl rfl
  · exact .inr ⟨b, o, rfl, hb, fun j x hx => (ht.cell (p := ⟨b, o + j, none⟩) (by show b < _; omega) (hn ⟨b, o, none⟩ rfl)).trans (hc j x hx)⟩
theorem rd_or {w : World} {B : Nat} {a : Option Addr} {bs : List UInt8} {fp : Nat → Prop} {w' : World} (h : Rd w B a bs) (ht : Turn fp w w') (hB : B ≤ w.heap.size) (hn : bs = [] ∨ ∀ x, a = some x → ¬ fp x.block) : Rd w' B a bs := by
  rcases hn with rfl | hn
  · exact .inl rfl
  · exact h.turn ht hB hn
theorem Row.turn {fp : Nat → Prop} {w w' : World} {B : Nat} {e : TypeId} {k : Nat} {a : Option Addr} {n c : Nat} {xs : List Value} (h : Row w B e k a n c xs) (ht : Turn fp w w') (hn : ∀ x, a = some x → ¬ fp x.block) : Row w' B e k a n c xs := by
  refine ⟨h.1, ?_⟩
  rcases h.2 with h2 | ⟨g, cap, cur, hv, hB, hh, hr⟩
  · exact .inl h2
  · refine .inr ⟨g, cap, cur, hv, hB, (ht.block g (Array.getElem?_eq_some_iff.1 hh).1 ?_).trans hh, hr⟩
    injection hv with e1
    exact hn _ e1

/-- a file's bytes: they lie in a row, of which the slice may have less than all -/
def Fil (w : World) (a : Option Addr) (n c : Nat) (bs : List UInt8) : Prop :=
  bs.length = n ∧ n ≤ c ∧ c ≤ maxLen ∧ ((a = none ∧ c = 0) ∨ ∃ g cur, a = some ⟨g, 0, none⟩ ∧ w.heap[g]? = some (.cells cur 5 (0, 0)) ∧ c ≤ cur.size ∧ cur.toList.take n = bs.map bv)
section
variable {w w' : World} {a : Option Addr} {n c : Nat} {bs : List UInt8}
theorem Fil.nil_ (w : World) : Fil w none 0 0 [] := ⟨rfl, Nat.le_refl _, by simp [maxLen], .inl ⟨rfl, rfl⟩⟩
theorem Fil.rd (h : Fil w a n c bs) : Rd w w.heap.size a bs := by
  obtain ⟨hl, hn, hc, ⟨rfl, rfl⟩ | ⟨g, cur, rfl, hh, hs, ht⟩⟩ := h
  · exact .inl (List.eq_nil_of_length_eq_zero (by omega))
  · refine .inr ⟨g, 0, rfl, (Array.getElem?_eq_some_iff.1 hh).1, fun j x hx => ?_⟩
    have hj : j < n := by have := (List.getElem?_eq_some_iff.1 hx).1; omega
    rw [cell_of_row _ _ _ _ _ _ hh, Nat.zero_add, ← Array.getElem?_toList]
    have e : (cur.toList.take n)[j]? = (bs.map bv)[j]? := by rw [ht]
    rw [List.getElem?_take, if_pos hj, List.getElem?_map, hx] at e
    exact e
theorem Fil.keep (h : Fil w a n c bs) (hk : ∀ x, a = some x → w'.heap[x.block]? = w.heap[x.block]?) : Fil w' a n c bs := by
  obtain ⟨hl, hn, hc, h4 | ⟨g, cur, rfl, hh, hs, ht⟩⟩ := h
  · exact ⟨hl, hn, hc, .inl h4⟩
  · exact ⟨hl, hn, hc, .inr ⟨g, cur, rfl, (hk _ rfl).trans hh, hs, ht⟩⟩
theorem Fil.lt (h : Fil w a n c bs) : ∀ x, a = some x → x.block < w.heap.size := by
  intro x hx
  obtain ⟨hl, hn, hc, ⟨h4, _⟩ | ⟨g, cur, e, hh, hs, ht⟩⟩ := h
  · rw [h4] at hx; cases hx
  · rw [e] at hx; injection hx with hx; subst hx; exact (Array.getElem?_eq_some_iff.1 hh).1
theorem Fil.cut (h : Fil w a n c bs) {k : Nat} (hk : k ≤ n) : Fil w a k k (bs.take k) := by
  obtain ⟨hl, hn, hc, ⟨rfl, rfl⟩ | ⟨g, cur, rfl, hh, hs, ht⟩⟩ := h
  · exact ⟨by simp; omega, Nat.le_refl _, by omega, .inl ⟨rfl, by omega⟩⟩
  · refine ⟨by simp; omega, Nat.le_refl _, by omega, .inr ⟨g, cur, rfl, hh, by omega, ?_⟩⟩
    rw [List.map_take, ← ht, List.take_take, Nat.min_eq_left hk]
theorem Own.fil {B : Nat} (h : Own w B a n c bs) : Fil w a n c bs := by
  refine ⟨h.len, h.cap.1, h.cap.2, ?_⟩
  rcases h.form with ⟨rfl, rfl, rfl, rfl⟩ | ⟨g, cur, rfl, hB, hg, hh, hn, hc, hs, ht⟩
  · exact .inl ⟨rfl, rfl⟩
  · exact .inr ⟨g, cur, rfl, hh, by omega, ht⟩
end

set_option maxRecDepth 100000 in
/-- append onto a file's bytes -/
theorem run_append_fil (w : World) (ty : TypeId) (a : Option Addr) (n c : Nat) (bs : List UInt8) (hown : Fil w a n c bs) (B2 : Nat) (A : Option Addr) (m d : Nat) (cs : List UInt8) (hr : Rd w B2 A cs) (hm : cs.length = m) (hsum : n + m ≤ 140737488355328) :
    ∃ a' c' w', (Builtin.append_ #[30, 30] ty #[.slice a n c, .slice A m d]).run Tryz.prog w = .ok (.slice a' (n + m) c') w' ∧ Fil w' a' (n + m) c' (bs ++ cs) ∧ w.grownBy w' (a.map (·.block)) ∧
      (a'.map (·.block) = a.map (·.block) ∨ a'.map (·.block) = some w.heap.size) := by
  obtain ⟨i0, hi, hz0, hz1, hz2⟩ := info_parts info_u8
  obtain ⟨hlb, hnc, hcm, hform⟩ := hown
  have hml : maxLen = 9223372036854775807 := rfl
  rcases A with _ | ad
  · have h0 : cs = [] := by rcases hr with h | ⟨_, _, h, _⟩ <;> first | exact h | cases h
    subst h0
    obtain rfl : m = 0 := by simpa using hm.symm
    refine ⟨a, c, w, ?_, ⟨by simpa using hlb, by simpa using hnc, hcm, by simpa using hform⟩, World.grownBy.refl w _, .inl rfl⟩
    rcases hform with ⟨rfl, rfl⟩ | ⟨g, cur, rfl, _, _, _⟩
    · obtain rfl : n = 0 := by omega
      simp [Builtin.append_, run_underlying Tryz.underlying30, sizeOf, typeInfo, hi, Builtin.lenOf, Builtin.firstCells]
    · simp [Builtin.append_, run_underlying Tryz.underlying30, sizeOf, typeInfo, hi, Builtin.lenOf, Builtin.firstCells, hnc, storeCells]
  have hcells : ∀ j u, (cs.map bv)[j]? = some u → w.cell? (ad.add j) = some u := by
    intro j u hu
    rcases hr with rfl | ⟨b, o, e, _, hc⟩
    · simp at hu
    · injection e with e; subst e
      rw [List.getElem?_map] at hu
      cases hx : cs[j]? with
      | none => rw [hx] at hu; cases hu
      | some x =>
        rw [hx] at hu
        simp only [Option.map_some, Option.some.injEq] at hu
        subst hu
        have := hc j x hx
        rw [Addr.add_lit]; exact this
  have grown : ∀ (old : Nat), old < n + m → ∀ (row : Option Nat),
      Fil (w.drew.alloc (.cells ((bs.map bv).toArray ++ (cs.map bv).toArray ++ Builtin.zeroCells (Value.cells (.int .u8 0)) (grownCap w (n + m) old 5 - (n + m))) 5)) (some ⟨w.heap.size, 0, none⟩) (n + m) (grownCap w (n + m) old 5) (bs ++ cs) ∧
      w.grownBy (w.drew.alloc (.cells ((bs.map bv).toArray ++ (cs.map bv).toArray ++ Builtin.zeroCells (Value.cells (.int .u8 0)) (grownCap w (n + m) old 5 - (n + m))) 5)) row := by
    intro old ho row
    have hge := grownCap_ge w (n + m) old 5
    have hcm := grownCap_le_maxLen w (n + m) old 5 (by omega)
    refine ⟨⟨by simp [hlb, hm], hge, hcm, .inr ⟨w.heap.size, _, rfl, heap_alloc_new w.drew _, ?_, ?_⟩⟩, ⟨rfl, rfl, rfl, by simp, fun k hk _ => heap_alloc_old w.drew _ hk⟩⟩
    · simp [size_zeroCells, Value.cells, hlb, hm]; omega
    · simp only [Array.toList_append]
      rw [← List.map_append]
      exact List.take_left' (by simp [hlb, hm])
  rcases hform with ⟨rfl, rfl⟩ | ⟨g, cur, rfl, hg, hcs, htake⟩
  · obtain rfl : n = 0 := by omega
    have hb : bs = [] := List.eq_nil_of_length_eq_zero hlb
    subst hb
    by_cases hm0 : m = 0
    · subst hm0
      have hc0 : cs = [] := List.eq_nil_of_length_eq_zero hm
      subst hc0
      refine ⟨none, 0, w, ?_, Fil.nil_ w, World.grownBy.refl w _, .inl rfl⟩
      simp [Builtin.append_, run_underlying Tryz.underlying30, sizeOf, typeInfo, hi, Builtin.lenOf, Builtin.firstCells, loadCells, loadCellsFrom]
    · have hr := run_append_nil (P := Tryz.prog) w 30 ty 5 i0 (.int .u8 0) Tryz.underlying30 hi hz0 ad m d (cs.map bv) (by simp [hz1, hm]) hcells (by omega) (by omega) (by rw [hz2]; omega)
      have hgr := grown 0 (by omega) ((none : Option Addr).map (·.block))
      simp only [Nat.zero_add, List.nil_append, List.map_nil, Array.empty_append] at hgr ⊢
      exact ⟨_, _, _, hr, hgr.1, hgr.2, .inr rfl⟩
  · by_cases hroom : n + m ≤ c
    · have hfit : n * i0.size + (cs.map bv).length ≤ cur.size := by rw [hz1, List.length_map]; omega
      have hr := run_append_room (P := Tryz.prog) w 30 ty 5 i0 Tryz.underlying30 hi g n c cur hg ad m d (cs.map bv) (by simp [hz1, hm]) hcells (bv_one _) hroom hfit
      refine ⟨_, _, _, hr, ⟨by simp [hlb, hm], hroom, hcm, .inr ⟨g, _, rfl, setRow_heap w g cur _ 5 _ hg, ?_, ?_⟩⟩, ⟨rfl, rfl, rfl, by simp, fun k _ hk => setRow_other w g k _ (fun e => hk (by simp [e]))⟩, .inl rfl⟩
      · rw [hz1]
        simp only [List.size_toArray, List.length_append, List.length_take, List.length_drop, Array.length_toList, List.length_map]
        omega
      · rw [hz1, Nat.mul_one, htake, ← List.map_append]
        exact List.take_left' (by simp [hlb, hm])
    · have holds : ∀ j u, (bs.map bv)[j]? = some u → w.cell? ((⟨g, 0, none⟩ : Addr).add j) = some u := by
        intro j u hu
        have hj : j < n := by have := (List.getElem?_eq_some_iff.1 hu).1; simp at this; omega
        rw [Addr.add_lit, Nat.zero_add, cell_of_row _ _ _ _ _ _ hg, ← Array.getElem?_toList]
        have e : (cur.toList.take n)[j]? = (bs.map bv)[j]? := by rw [htake]
        rw [List.getElem?_take, if_pos hj, hu] at e
        exact e
      have hr := run_append_grow (P := Tryz.prog) w 30 ty 5 i0 (.int .u8 0) Tryz.underlying30 hi hz0 ⟨g, 0, none⟩ n c (bs.map bv) (by simp [hz1, hlb]) holds ad m d (cs.map bv) (by simp [hz1, hm]) hcells (by omega) (by omega) (growslice_fits (by omega) (by rw [hz2]; omega))
      have hgr := grown c (by omega) ((some (⟨g, 0, none⟩ : Addr)).map (·.block))
      exact ⟨_, _, _, hr, hgr.1, hgr.2, .inr rfl⟩
end Go.Proofs.YtopnhplacdbkdaaGreat
