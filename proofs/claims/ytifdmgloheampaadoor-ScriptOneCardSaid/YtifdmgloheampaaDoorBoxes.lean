/- A variable in a box of its own; words on worlds that a range over a function turns. Plain lemmas on worlds, no condition. -/
import Derived.Test.YtifdmgloheampaaDoorOwnIn
import Derived.Test.YtifdmgloheampaaDoorRange
namespace Go.Proofs.YtifdmgloheampaaDoor
open Go.RowKit

theorem grown_below {w w' : World} (h : Below w.heap.size w w') (row : Option Nat) : w.grownBy w' row := ⟨h.os, h.tape, h.output, h.size, fun k hk _ => h.block k hk⟩
theorem Rd.turned {w w' : World} {B : Nat} {a : Option Addr} {bs : List UInt8} (h : Rd w B a bs) {row : Option Nat} (hg : w.grownBy w' row) (hr : ∀ r, row = some r → ∃ o : Obj, w.heap[r]? = some o ∧ o.isCells = false) : Rd w' B a bs := by
  rcases h with rfl | ⟨b, o, rfl, hb, hc⟩
  · exact .inl rfl
  · exact .inr ⟨b, o, rfl, hb, fun j x hx => cell_kept (hc j x hx) hg hr⟩
/-- a variable in a box of its own -/
def Box (U : World) (b : Nat) (v : Value) : Prop := U.cell? ⟨b, 0, none⟩ = some v ∧ U.frozen? ⟨b, 0, none⟩ = false
section
variable {U V : World} {b : Nat} {v : Value}
theorem Box.turned (h : Box U b v) {row : Option Nat} (hg : U.grownBy V row) (hr : ∀ r, row = some r → ∃ o : Obj, U.heap[r]? = some o ∧ o.isCells = false) : Box V b v := ⟨cell_kept h.1 hg hr, (frozen_kept h.1 hg hr).trans h.2⟩
theorem Box.call (h : Box U b v) (hb : Below U.heap.size U V) : Box V b v := by
  have hlt := block_lt_of_cell h.1
  exact ⟨(hb.cell (p := ⟨b, 0, none⟩) hlt).trans h.1, (hb.frozen (p := ⟨b, 0, none⟩) hlt).trans h.2⟩
theorem Box.new (U : World) (v : Value) (t : TypeId) : Box (U.alloc (.cells #[v] t)) U.heap.size v := ⟨by rw [cell_of_row _ _ _ _ _ _ (heap_alloc_new _ _)]; rfl, frozen_of_row _ _ _ _ _ (heap_alloc_new _ _)⟩
theorem Box.alloc (h : Box U b v) (o : Obj) : Box (U.alloc o) b v := h.call ((Below.refl _ _).alloc (Nat.le_refl _) _)
theorem Box.drewN (h : Box U b v) (k : Nat) : Box (U.drewN k) b v := h
theorem Box.set (h : Box U b v) (x : Value) : Box (U.setCell ⟨b, 0, none⟩ x) b x := ⟨World.cell?_setCell_same' _ _ _ (by rw [h.1]; rfl), by rw [World.frozen?_setCell]; exact h.2⟩
theorem Box.other (h : Box U b v) {p : Addr} (hp : p.block ≠ b) (x : Value) : Box (U.setCell p x) b v := ⟨(World.cell?_setCell_other _ _ _ _ (by intro e; rw [e] at hp; exact hp rfl)).trans h.1, by rw [World.frozen?_setCell]; exact h.2⟩
end
end Go.Proofs.YtifdmgloheampaaDoor
