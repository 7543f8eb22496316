/- The disk behind its pointer, and how it is kept. Plain lemmas on worlds, no condition. -/
import Derived.Test.YtopnhplacdbkdaaGreatDiskMap
import Derived.Test.YtopnhplacdbkdaaGreatLogB
namespace Go.Proofs.YtopnhplacdbkdaaGreat
open Go.RowKit DiskM

/-- a file as the map has it -/
structure FileV where
  a : Option Addr
  n : Nat
  c : Nat
  bs : List UInt8
  sure : Nat
def FileV.val (f : FileV) : Value := .agg #[.slice f.a f.n f.c, .int .i64 (f.sure : Int)]
def FileV.abs (f : FileV) : List UInt8 × Nat := (f.bs, f.sure)
def FileV.none_ : FileV := ⟨none, 0, 0, [], 0⟩
abbrev FVs := List (Nm × FileV)
def getF (fv : FVs) (k : Nm) : FileV := (DiskM.look k fv).getD FileV.none_
def diskCells (mb : Nat) (d : DS) : Array Value := #[.map (some mb), .int .i64 (d.room : Int), .int .i64 d.left, .bool d.done, .bool d.down]
structure DiskRaw (w : World) (fp : Nat → Prop) (p mb : Nat) (fv : FVs) (d : DS) : Prop where
  cells : w.heap[p]? = some (.cells (diskCells mb d) 47 (0, 0))
  map : MapAt w mb (fv.map (onV FileV.val))
  fpp : fp p
  fpm : fp mb
  rows : ∀ x ∈ fv, Fil w x.2.a x.2.n x.2.c x.2.bs ∧ ∀ ad, x.2.a = some ad → fp ad.block
  apart : ∀ x ∈ fv, ∀ y ∈ fv, x.1 ≠ y.1 → ∀ ax ay, x.2.a = some ax → y.2.a = some ay → ax.block ≠ ay.block
  files : d.files = fv.map (onV FileV.abs)
  lt : ∀ k, fp k → k < w.heap.size
  ok : d.Ok
def DiskAt (w : World) (fp : Nat → Prop) (p : Nat) (d : DS) : Prop := ∃ mb fv, DiskRaw w fp p mb fv d

section
variable {w w' : World} {fp fp' : Nat → Prop} {p mb : Nat} {fv : FVs} {d d' : DS}
theorem DiskRaw.keep (h : DiskRaw w fp p mb fv d) (hk : ∀ k, fp k → w'.heap[k]? = w.heap[k]?) (hs : w.heap.size ≤ w'.heap.size) : DiskRaw w' fp p mb fv d :=
  ⟨(hk _ h.fpp).trans h.cells, h.map.keep (hk _ h.fpm), h.fpp, h.fpm, fun x hx => ⟨(h.rows x hx).1.keep fun ad ha => hk _ ((h.rows x hx).2 ad ha), (h.rows x hx).2⟩, h.apart, h.files, fun k hk' => Nat.lt_of_lt_of_le (h.lt k hk') hs, h.ok⟩
theorem DiskAt.keep (h : DiskAt w fp p d) (hk : ∀ k, fp k → w'.heap[k]? = w.heap[k]?) (hs : w.heap.size ≤ w'.heap.size) : DiskAt w' fp p d := by
  obtain ⟨mb, fv, h⟩ := h
  exact ⟨mb, fv, h.keep hk hs⟩
theorem DiskRaw.below (h : DiskRaw w fp p mb fv d) (hb : Below w.heap.size w w') : DiskRaw w' fp p mb fv d := h.keep (fun k hk => hb.block k (h.lt k hk)) hb.size
theorem DiskAt.lt (h : DiskAt w fp p d) : ∀ k, fp k → k < w.heap.size := by
  obtain ⟨mb, fv, h⟩ := h
  exact h.lt
theorem DiskAt.ok (h : DiskAt w fp p d) : d.Ok := by
  obtain ⟨mb, fv, h⟩ := h
  exact h.ok
theorem DiskAt.fpp (h : DiskAt w fp p d) : fp p := by
  obtain ⟨mb, fv, h⟩ := h
  exact h.fpp
theorem DiskAt.below (h : DiskAt w fp p d) (hb : Below w.heap.size w w') : DiskAt w' fp p d := h.keep (fun k hk => hb.block k (h.lt k hk)) hb.size
theorem DiskAt.turn {fq : Nat → Prop} (h : DiskAt w fp p d) (ht : Turn fq w w') (hd : ∀ k, fp k → ¬ fq k) : DiskAt w' fp p d := h.keep (fun k hk => ht.block k (h.lt k hk) (hd k hk)) ht.size
theorem DiskRaw.drewN (h : DiskRaw w fp p mb fv d) (k : Nat) : DiskRaw (w.drewN k) fp p mb fv d := h.keep (fun _ _ => rfl) (Nat.le_refl _)
/-- its fields -/
theorem DiskRaw.cell (h : DiskRaw w fp p mb fv d) : w.cell? ⟨p, 0, none⟩ = some (.map (some mb)) ∧ w.cell? ⟨p, 1, none⟩ = some (.int .i64 (d.room : Int)) ∧ w.cell? ⟨p, 2, none⟩ = some (.int .i64 d.left) ∧ w.cell? ⟨p, 3, none⟩ = some (.bool d.done) ∧ w.cell? ⟨p, 4, none⟩ = some (.bool d.down) := by
  have hc := fun j => cell_of_row w p j _ _ _ h.cells
  exact ⟨hc 0, hc 1, hc 2, hc 3, hc 4⟩
theorem DiskRaw.free (h : DiskRaw w fp p mb fv d) (j : Nat) : w.frozen? ⟨p, j, none⟩ = false := frozen_of_row _ _ _ _ _ h.cells
theorem DiskRaw.ne (h : DiskRaw w fp p mb fv d) : mb ≠ p := by
  intro e
  have := h.cells
  rw [← e] at this
  exact h.map.not_cells this
/-- a field is written -/
theorem DiskRaw.setF (h : DiskRaw w fp p mb fv d) (j : Nat) (v : Value) (hv : (diskCells mb d).setIfInBounds j v = diskCells mb d') (hf : d'.files = d.files) (hok : d'.Ok) : DiskRaw (w.setCell ⟨p, j, none⟩ v) fp p mb fv d' := by
  have hoth : ∀ k, k ≠ p → (w.setCell ⟨p, j, none⟩ v).heap[k]? = w.heap[k]? := fun k hk => Below.heap_setCell _ _ _ _ hk
  refine ⟨?_, h.map.keep (hoth _ h.ne), h.fpp, h.fpm, fun x hx => ⟨(h.rows x hx).1.keep fun ad ha => hoth _ ?_, (h.rows x hx).2⟩, h.apart, hf.trans h.files, fun k hk => by simpa [World.setCell] using h.lt k hk, hok⟩
  · have := heap_setCell_same w p j _ _ v h.cells
    rw [hv] at this; exact this
  · intro e
    obtain ⟨_, _, _, h4⟩ := (h.rows x hx).1
    rcases h4 with ⟨h0, _⟩ | ⟨g, cur, e1, hh, _⟩
    · rw [h0] at ha; cases ha
    · rw [e1] at ha; injection ha with ha; subst ha
      have hc := h.cells
      rw [← e] at hc
      rw [show w.heap[g]? = _ from hh] at hc
      injection hc with hc
      injection hc with hc _
      have := congrArg Array.size hc
      revert hh
      rw [hc]
      intro hh
      have h6 := h.cells
      rw [← e] at h6
      have h7 : some (Obj.cells (diskCells mb d) 5 (0, 0)) = some (Obj.cells (diskCells mb d) 47 (0, 0)) := hh.symm.trans h6
      injection h7 with h7
      injection h7 with _ h8
      exact absurd h8 (by decide)
theorem getF_mem {k : Nm} (h : (DiskM.look k fv).isSome = true) : (k, getF fv k) ∈ fv := by
  obtain ⟨v, hv⟩ := Option.isSome_iff_exists.1 h
  unfold getF
  rw [hv]; exact look_mem hv
theorem DiskRaw.fil (h : DiskRaw w fp p mb fv d) (k : Nm) : Fil w (getF fv k).a (getF fv k).n (getF fv k).c (getF fv k).bs := by
  unfold getF
  cases hl : DiskM.look k fv with
  | none => exact Fil.nil_ w
  | some v => exact (h.rows _ (look_mem hl)).1
theorem DiskRaw.filfp (h : DiskRaw w fp p mb fv d) (k : Nm) : ∀ ad, (getF fv k).a = some ad → fp ad.block := by
  unfold getF
  cases hl : DiskM.look k fv with
  | none => intro ad ha; cases ha
  | some v => exact (h.rows _ (look_mem hl)).2
theorem DiskRaw.old (h : DiskRaw w fp p mb fv d) (k : Nm) : DiskM.old d k = (getF fv k).abs := by
  unfold DiskM.old getF
  rw [h.files, look_map]
  cases DiskM.look k fv <;> rfl
theorem DiskRaw.isSome (h : DiskRaw w fp p mb fv d) (k : Nm) : (DiskM.look k d.files).isSome = (DiskM.look k fv).isSome := by
  rw [h.files, look_map]
  cases DiskM.look k fv <;> rfl
theorem fileAt_val (fv : FVs) (k : Nm) : fileAt (fv.map (onV FileV.val)) k = (getF fv k).val := by
  unfold fileAt getF
  rw [look_map]
  cases DiskM.look k fv <;> rfl
theorem DiskRaw.look_plain (h : DiskRaw w fp p mb fv d) (s : ByteArray) (hs : s.size ≤ maxLen) :
    (Instr.lookup 44 (.map (some mb)) (.string s) false).run Tryz.prog w = .ok (.agg #[.slice (getF fv s.data.toList).a (getF fv s.data.toList).n (getF fv s.data.toList).c, .int .i64 ((getF fv s.data.toList).sure : Int)]) w := by
  rw [h.map.look_plain s hs, fileAt_val]; rfl
theorem DiskRaw.look_ok (h : DiskRaw w fp p mb fv d) (s : ByteArray) (hs : s.size ≤ maxLen) :
    (Instr.lookup 44 (.map (some mb)) (.string s) true).run Tryz.prog w = .ok (.tuple #[.agg #[.slice (getF fv s.data.toList).a (getF fv s.data.toList).n (getF fv s.data.toList).c, .int .i64 ((getF fv s.data.toList).sure : Int)], .bool (DiskM.look s.data.toList d.files).isSome]) w := by
  rw [h.map.look_ok s hs, fileAt_val, h.isSome, look_map]
  cases DiskM.look s.data.toList fv <;> rfl
end
end Go.Proofs.YtopnhplacdbkdaaGreat
