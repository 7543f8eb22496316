/- The document's Parse, one turn of its first loop: the digits so far by ten and the next one. Condition: the digits lie; the place lies in the text. -/
import Derived.Test.YtmocmkfpblakbaaDoorRefL
import Derived.Test.YtmocmkfpblakbaaDoorRefI
import Derived.Deep.RegionLaw
import Derived.Test.YtmocmkfpblakbaaDoorFlatU
namespace Go.Proofs.YtmocmkfpblakbaaDoor
open Go.RowKit WordsM DecM

/-- one digit as a row -/
theorem dig_row (w : World) (m : Nat) (T : TypeId) : RdI .u32 (w.alloc (.cells #[.int .u32 (m : Int)] T)) (w.alloc (.cells #[.int .u32 (m : Int)] T)).heap.size (some ⟨w.heap.size, 0, none⟩) [m] :=
  .inr ⟨w.heap.size, 0, rfl, box_lt _ _, fun j x hx => by
    cases j with
    | zero => simp only [List.getElem?_cons_zero, Option.some.injEq] at hx; subst hx; rw [cell_of_row _ _ _ _ _ _ (heap_alloc_new _ _)]; rfl
    | succ j => simp at hx⟩
theorem val_one (B m : Nat) : val B [m] = m := by simp [val]
theorem ten_row (w : World) (T : TypeId) : DigIn (w.alloc (.cells #[.int .u32 10] T)) (some ⟨w.heap.size, 0, none⟩) 1 1 10 :=
  ⟨by decide, Nat.le_refl _, by omega, by
    have h : dig (2 ^ 32) 10 = [10] := by rw [dig_step (by decide) (by decide)]; rfl
    rw [h]
    exact dig_row w 10 T⟩
/-- a slice of right digits as a value -/
def VD (v : Nat) (x : Value) (w : World) : Prop := ∃ a n c, x = .slice a n c ∧ DigIn w a n c v
theorem VD.step {v : Nat} {x : Value} {w w' : World} (h : VD v x w) (hb : Below w.heap.size w w') : VD v x w' := by
  obtain ⟨a, n, c, rfl, hd⟩ := h
  exact ⟨a, n, c, rfl, hd.step hb⟩
def VR (m : Nat) (x : Value) (w : World) : Prop := ∃ g, x = .slice (some ⟨g, 0, none⟩) 1 1 ∧ RdI .u32 w w.heap.size (some ⟨g, 0, none⟩) [m]
theorem VR.step {v : Nat} {x : Value} {w w' : World} (h : VR v x w) (hb : Below w.heap.size w w') : VR v x w' := by
  obtain ⟨g, rfl, hd⟩ := h
  exact ⟨g, rfl, hd.step hb⟩
/-- what is promised of the values in a turn -/
def turnL (v q : Nat) : Nat → Option (Value → World → Prop)
  | 1 => some (VD 10)
  | 2 => some (VD (v * 10))
  | 8 => some (VR q)
  | 9 => some (VD q)
  | 10 => some (VD (v * 10 + q))
  | 11 => some (VD (v * 10 + q))
  | _ => none
theorem turnL_step (v q : Nat) : ∀ i φ, turnL v q i = some φ → ∀ x w w', φ x w → Below w.heap.size w w' → φ x w' := by
  intro i φ h x w w' hx hb
  unfold turnL at h
  split at h <;> first | (injection h with h; subst h; first | exact VD.step hx hb | exact VR.step hx hb) | cases h
/-- a call of a Go function, as one step of a region that draws -/
theorem step_call {P : Program} {ops : Array Oper} {o : Oper} {a : Act} {w : World} {K : Act → World → Prop} {Q : Exit → Act → World → Prop} {E : Prop} (hgd : o.guard = none) (f : FuncId) (args : Array Value)
    (hrun : (execOp a.eval o).run P w = .ok (.enter f args) w) (h : Calls P f args w fun e w' => ∃ v, e = .returned v ∧ K (a.put o.dst v) w') : if Region.wanted o (yielded ops a.tmps) = true then Oper.wp P o a w K Q else E := by
  rw [if_pos (by simp [Region.wanted, hgd])]
  unfold Oper.wp
  rw [hrun, Oper.upon_enter]
  exact h.mono (by rintro e w' ⟨v, rfl, hk⟩; exact hk)
theorem below_dr {B : Nat} {w W : World} (h : Below B w W) : Below B w W.drew := ⟨h.os, h.tape, h.output, h.size, h.block⟩
theorem DigIn.drew {w : World} {a : Option Addr} {n c v : Nat} (h : DigIn w a n c v) : DigIn w.drew a n c v := ⟨h.len, h.cap, h.most, h.rd⟩
theorem DigIn.alal {w : World} {a : Option Addr} {n c v : Nat} (h : DigIn w.drew a n c v) (o : Obj) : DigIn (w.alloc o).drew a n c v :=
  ((show DigIn w a n c v from ⟨h.len, h.cap, h.most, h.rd⟩).step ((Below.refl _ _).alloc (Nat.le_refl _) o)).drew
theorem below_al {w W : World} (h : Below w.heap.size w W) (o : Obj) : Below w.heap.size w (W.alloc o) := h.alloc h.size o
/-- digits' values are not longer than the digits -/
theorem dig_dec_len {v k : Nat} (h : v < 10 ^ k) : (dig (2 ^ 32) v).length ≤ k := dig_len_le (by decide) (Nat.lt_of_lt_of_le h (Nat.pow_le_pow_left (by decide) k))
theorem reftrim_one (a : Option Addr) (q : Nat) (w : World) (hq : q ≤ 9) (h : RdI .u32 w w.heap.size a [q]) :
    Calls Tryd.prog 22 #[.slice a 1 1] w fun e w' => ∃ n', e = .returned (.slice a n' n') ∧ n' ≤ 1 ∧ DigIn w' a n' n' q ∧ w = w' := by
  have h1 := reftrim_dig a 1 1 [q] w rfl (Nat.le_refl _) (by omega) h (fun x hx => by rw [List.mem_singleton] at hx; subst hx; show x < 4294967296; omega)
  rwa [val_one] at h1
end Go.Proofs.YtmocmkfpblakbaaDoor
