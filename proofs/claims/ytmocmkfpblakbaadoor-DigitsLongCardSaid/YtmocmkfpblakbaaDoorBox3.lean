/- A block of three cells (a struct of three fields): what it holds, kept by calls, behind a store of all three. Plain lemmas on worlds, no condition. -/
import Derived.Test.YtmocmkfpblakbaaDoorNumR
namespace Go.Proofs.YtmocmkfpblakbaaDoor
open Go.RowKit

/-- block b holds three cells -/
structure NumBox (w : World) (b : Nat) (v0 v1 v2 : Value) : Prop where
  c0 : w.cell? ⟨b, 0, none⟩ = some v0
  c1 : w.cell? ⟨b, 1, none⟩ = some v1
  c2 : w.cell? ⟨b, 2, none⟩ = some v2
  f0 : w.frozen? ⟨b, 0, none⟩ = false
  f1 : w.frozen? ⟨b, 1, none⟩ = false
  f2 : w.frozen? ⟨b, 2, none⟩ = false
theorem NumBox.new (w : World) (v0 v1 v2 : Value) (T : TypeId) : NumBox (w.alloc (.cells #[v0, v1, v2] T)) w.heap.size v0 v1 v2 :=
  ⟨by rw [cell_of_row _ _ _ _ _ _ (heap_alloc_new _ _)]; rfl, by rw [cell_of_row _ _ _ _ _ _ (heap_alloc_new _ _)]; rfl, by rw [cell_of_row _ _ _ _ _ _ (heap_alloc_new _ _)]; rfl,
    frozen_of_row _ _ _ _ _ (heap_alloc_new _ _), frozen_of_row _ _ _ _ _ (heap_alloc_new _ _), frozen_of_row _ _ _ _ _ (heap_alloc_new _ _)⟩
theorem box_lt (w : World) (o : Obj) : w.heap.size < (w.alloc o).heap.size := by rw [World.size_alloc]; omega
theorem NumBox.step {w w' : World} {b B : Nat} {v0 v1 v2 : Value} (h : NumBox w b v0 v1 v2) (hb : Below B w w') (hB : b < B) : NumBox w' b v0 v1 v2 :=
  ⟨(hb.cell (p := ⟨b, 0, none⟩) hB).trans h.c0, (hb.cell (p := ⟨b, 1, none⟩) hB).trans h.c1, (hb.cell (p := ⟨b, 2, none⟩) hB).trans h.c2, (hb.frozen (p := ⟨b, 0, none⟩) hB).trans h.f0, (hb.frozen (p := ⟨b, 1, none⟩) hB).trans h.f1, (hb.frozen (p := ⟨b, 2, none⟩) hB).trans h.f2⟩
theorem NumBox.d1 {w : World} {b : Nat} {v0 v1 v2 : Value} (h : NumBox w b v0 v1 v2) (u0 : Value) : (w.setCell ⟨b, 0, none⟩ u0).cell? ⟨b, 1, none⟩ = some v1 := (World.cell?_setCell_other _ _ _ _ (by simp)).trans h.c1
theorem NumBox.d2 {w : World} {b : Nat} {v0 v1 v2 : Value} (h : NumBox w b v0 v1 v2) (u0 u1 : Value) : ((w.setCell ⟨b, 0, none⟩ u0).setCell ⟨b, 1, none⟩ u1).cell? ⟨b, 2, none⟩ = some v2 := (World.cell?_setCell_other _ _ _ _ (by simp)).trans ((World.cell?_setCell_other _ _ _ _ (by simp)).trans h.c2)
theorem NumBox.store {w : World} {b : Nat} {v0 v1 v2 : Value} (h : NumBox w b v0 v1 v2) (u0 u1 u2 : Value) : NumBox (((w.setCell ⟨b, 0, none⟩ u0).setCell ⟨b, 1, none⟩ u1).setCell ⟨b, 2, none⟩ u2) b u0 u1 u2 :=
  ⟨(World.cell?_setCell_other _ _ _ _ (by simp)).trans ((World.cell?_setCell_other _ _ _ _ (by simp)).trans (World.cell?_setCell_same' _ _ _ (by rw [h.c0]; rfl))), (World.cell?_setCell_other _ _ _ _ (by simp)).trans (World.cell?_setCell_same' _ _ _ (by rw [h.d1]; rfl)), World.cell?_setCell_same' _ _ _ (by rw [h.d2]; rfl), by simp [h.f0], by simp [h.f1], by simp [h.f2]⟩
theorem NumBox.below {w w0 : World} {b B : Nat} (hb : Below B w0 w) (hB : B ≤ b) (u0 u1 u2 : Value) : Below B w0 (((w.setCell ⟨b, 0, none⟩ u0).setCell ⟨b, 1, none⟩ u1).setCell ⟨b, 2, none⟩ u2) :=
  ((hb.setCell (p := ⟨b, 0, none⟩) hB _).setCell (p := ⟨b, 1, none⟩) hB _).setCell (p := ⟨b, 2, none⟩) hB _
/-- numbers that lie somewhere are not touched by a store of all three cells, none of which holds a number of that kind -/
theorem RdI.store3 {K : IntKind} {w : World} {B b : Nat} {a : Option Addr} {ls : List Nat} {v0 v1 v2 : Value} (h : RdI K w B a ls) (hN : NumBox w b v0 v1 v2) (h0 : ∀ x : Nat, v0 ≠ nv K x) (h1 : ∀ x : Nat, v1 ≠ nv K x) (h2 : ∀ x : Nat, v2 ≠ nv K x) (u0 u1 u2 : Value) :
    RdI K (((w.setCell ⟨b, 0, none⟩ u0).setCell ⟨b, 1, none⟩ u1).setCell ⟨b, 2, none⟩ u2) B a ls := by
  rcases h with rfl | ⟨g, o, rfl, hg, hc⟩
  · exact .inl rfl
  · refine .inr ⟨g, o, rfl, hg, fun j x hx => ?_⟩
    have hcx := hc j x hx
    have key : ∀ (i : Nat) (v : Value), w.cell? ⟨b, i, none⟩ = some v → (∀ x : Nat, v ≠ nv K x) → (⟨g, o + j, none⟩ : Addr) ≠ ⟨b, i, none⟩ := fun i v hv hne e => by
      rw [e, hv] at hcx
      injection hcx with hcx
      exact hne x hcx
    exact (World.cell?_setCell_other _ _ _ _ (key 2 v2 hN.c2 h2).symm).trans ((World.cell?_setCell_other _ _ _ _ (key 1 v1 hN.c1 h1).symm).trans ((World.cell?_setCell_other _ _ _ _ (key 0 v0 hN.c0 h0).symm).trans hcx))
theorem box_size (w : World) (b : Nat) (u0 u1 u2 : Value) : w.heap.size ≤ (((w.setCell ⟨b, 0, none⟩ u0).setCell ⟨b, 1, none⟩ u1).setCell ⟨b, 2, none⟩ u2).heap.size := (NumBox.below (Below.refl b w) (Nat.le_refl b) u0 u1 u2).size
end Go.Proofs.YtmocmkfpblakbaaDoor
