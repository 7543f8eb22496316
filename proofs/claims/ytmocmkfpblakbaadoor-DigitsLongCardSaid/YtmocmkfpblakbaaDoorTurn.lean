/- What turns: only some blocks, and new ones. Plain lemmas on worlds, no condition. -/
import Derived.Test.YtmocmkfpblakbaaDoorRow
namespace Go.Proofs.YtmocmkfpblakbaaDoor
open Go.RowKit

/-- only the blocks of fp, and new ones, have turned -/
structure Turn (fp : Nat → Prop) (w w' : World) : Prop where
  os : w'.os = w.os
  tape : w'.tape = w.tape
  output : w'.output = w.output
  size : w.heap.size ≤ w'.heap.size
  block : ∀ k, k < w.heap.size → ¬ fp k → w'.heap[k]? = w.heap[k]?
section
variable {fp fp' : Nat → Prop} {w w' w'' : World} {B : Nat}
theorem Turn.refl (fp : Nat → Prop) (w : World) : Turn fp w w := ⟨rfl, rfl, rfl, Nat.le_refl _, fun _ _ _ => rfl⟩
theorem Turn.trans (h : Turn fp w w') (h' : Turn fp' w' w'') (hs : ∀ k, k < w.heap.size → fp' k → fp k) : Turn fp w w'' :=
  ⟨h'.os.trans h.os, h'.tape.trans h.tape, h'.output.trans h.output, Nat.le_trans h.size h'.size, fun k hk hn => (h'.block k (Nat.lt_of_lt_of_le hk h.size) (fun e => hn (hs k hk e))).trans (h.block k hk hn)⟩
theorem Turn.trans0 (h : Turn fp w w') (h' : Turn fp w' w'') : Turn fp w w'' := h.trans h' fun _ _ h => h
theorem Turn.of_below (h : Below w.heap.size w w') (fp : Nat → Prop) : Turn fp w w' := ⟨h.os, h.tape, h.output, h.size, fun k hk _ => h.block k hk⟩
theorem Turn.of_grown {row : Option Nat} (h : w.grownBy w' row) (hr : ∀ r, row = some r → r < w.heap.size → fp r) : Turn fp w w' :=
  ⟨h.os, h.tape, h.output, h.size, fun k hk hn => h.block k hk (fun e => hn (hr k e.symm hk))⟩
theorem Turn.more (h : Turn fp w w') (hs : ∀ k, k < w.heap.size → fp k → fp' k) : Turn fp' w w' := ⟨h.os, h.tape, h.output, h.size, fun k hk hn => h.block k hk (fun e => hn (hs k hk e))⟩
theorem Turn.setCell (fp : Nat → Prop) (w : World) {p : Addr} (hp : fp p.block) (v : Value) : Turn fp w (w.setCell p v) :=
  ⟨rfl, rfl, rfl, by simp [World.setCell], fun k _ hn => Below.heap_setCell _ _ _ _ (fun e => hn (by rw [e]; exact hp))⟩
theorem Turn.drewN (h : Turn fp w w') (k : Nat) : Turn fp w (w'.drewN k) := ⟨h.os, h.tape, h.output, h.size, h.block⟩
theorem Turn.drew (h : Turn fp w w') : Turn fp w w'.drew := ⟨h.os, h.tape, h.output, h.size, h.block⟩
theorem Below.turn (h : Below B w w') (h' : Turn fp w' w'') (hB : B ≤ w'.heap.size) (hf : ∀ k, fp k → B ≤ k) : Below B w w'' :=
  h.trans ⟨h'.os, h'.tape, h'.output, h'.size, fun k hk => h'.block k (by omega) (fun e => by have := hf k e; omega)⟩
theorem Turn.cell (h : Turn fp w w') {p : Addr} (hp : p.block < w.heap.size) (hn : ¬ fp p.block) : w'.cell? p = w.cell? p := World.cell?_of_block (h.block _ hp hn)
theorem Turn.frozen (h : Turn fp w w') {p : Addr} (hp : p.block < w.heap.size) (hn : ¬ fp p.block) : w'.frozen? p = w.frozen? p := World.frozen?_of_block (h.block _ hp hn)
end
theorem Own.turn {fp : Nat → Prop} {w w' : World} {B : Nat} {a : Option Addr} {n c : Nat} {bs : List UInt8} (h : Own w B a n c bs) (ht : Turn fp w w') (hn : ∀ x, a = some x → ¬ fp x.block) : Own w' B a n c bs := by
  refine ⟨h.1, ?_⟩
  rcases h.2 with h2 | ⟨g, cap, cur, hv, hB, hh, hr⟩
  · exact .inl h2
  · refine .inr ⟨g, cap, cur, hv, hB, (ht.block g (Array.getElem?_eq_some_iff.1 hh).1 ?_).trans hh, hr⟩
    injection hv with e1
    exact hn _ e1
theorem Own.apart {fp : Nat → Prop} {w : World} {B : Nat} {a : Option Addr} {n c : Nat} {bs : List UInt8} (h : Own w B a n c bs) (hf : ∀ k, fp k → k < B) : ∀ x, a = some x → ¬ fp x.block := by
  intro x hx hp
  rcases h.form with ⟨h0, _⟩ | ⟨g, cur, e, hB, _⟩
  · rw [h0] at hx; cases hx
  · rw [e] at hx; injection hx with hx; subst hx
    have := hf _ hp
    exact Nat.lt_irrefl _ (Nat.lt_of_lt_of_le this hB)
theorem Rd.turn {fp : Nat → Prop} {w w' : World} {B : Nat} {a : Option Addr} {bs : List UInt8} (h : Rd w B a bs) (ht : Turn fp w w') (hB : B ≤ w.heap.size) (hn : ∀ x, a = some x → ¬ fp x.block) : Rd w' B a bs := by
  rcases h with rfl | ⟨b, o, rfl, hb, hc⟩
  · exact .inl rfl
  · exact .inr ⟨b, o, rfl, hb, fun j x hx => (ht.cell (p := ⟨b, o + j, none⟩) (by show b < _; omega) (hn ⟨b, o, none⟩ rfl)).trans (hc j x hx)⟩
theorem rd_or {w : World} {B : Nat} {a : Option Addr} {bs : List UInt8} {fp : Nat → Prop} {w' : World} (h : Rd w B a bs) (ht : Turn fp w w') (hB : B ≤ w.heap.size) (hn : bs = [] ∨ ∀ x, a = some x → ¬ fp x.block) : Rd w' B a bs := by
  rcases hn with rfl | hn
  · exact .inl rfl
  · exact h.turn ht hB hn
theorem Row.turn {fp : Nat → Prop} {w w' : World} {B : Nat} {e : TypeId} {k : Nat} {a : Option Addr} {n c : Nat} {xs : List Value} (h : Row w B e k a n c xs) (ht : Turn fp w w') (hn : ∀ x, a = some x → ¬ fp x.block) : Row w' B e k a n c xs := by
  refine ⟨h.1, ?_⟩
  rcases h.2 with h2 | ⟨g, cap, cur, hv, hB, hh, hr⟩
  · exact .inl h2
  · refine .inr ⟨g, cap, cur, hv, hB, (ht.block g (Array.getElem?_eq_some_iff.1 hh).1 ?_).trans hh, hr⟩
    injection hv with e1
    exact hn _ e1
end Go.Proofs.YtmocmkfpblakbaaDoor
