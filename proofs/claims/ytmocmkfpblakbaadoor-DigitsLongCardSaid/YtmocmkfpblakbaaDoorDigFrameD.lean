/- The laid world of this round's rows gives what the walks ask. Condition: the row's list is met; the world has the program's shape. -/
import Derived.Test.YtmocmkfpblakbaaDoorCards
import Derived.Test.YtmocmkfpblakbaaDoorTie
import Derived.Test.YtmocmkfpblakbaaDoorLaw4B
import Derived.ProofKit
import Derived.OpenShut
import Derived.Deep.DeepHandedRow
import Derived.Lib.LaidTab
import Derived.Stop.LaidErr
import Derived.Shelf.Vars
import Derived.Lay
namespace Go.Proofs.YtmocmkfpblakbaaDoor
open Go.RowKit
theorem lt_of_cell {w : World} {p : Addr} {v : Value} (h : w.cell? p = some v) : p.block < w.heap.size := by
  refine Nat.lt_of_not_le fun hle => ?_
  unfold World.cell? at h
  rw [Array.getElem?_eq_none hle] at h
  simp at h
theorem tab_laid {W : World} (h : laidMet Tryd.prog Rows.digitsEvenRow.laid W) : Lib.TabIs Tryd.prog W "internal/strconv.uint64pow10" .u64 Lib.pow10Tab := by
  have h1 := h.tail.tail
  exact Lib.tabIs_of_head (rest := _) (t := 125) (e := 41) (n := 20) g_tab (by kernel_rfl) (by kernel_rfl) (by kernel_rfl) (by kernel_rfl) (by kernel_rfl) h1
theorem bru_laid {W : World} (h : laidMet Tryd.prog Rows.digitsEvenRow.laid W) : TabIn W := by
  have h1 := h.tail
  have ht : Lib.TabIs Tryd.prog W "math/bits.deBruijn64tab" .u8 [0, 1, 56, 2, 57, 49, 28, 3, 61, 58, 42, 50, 38, 29, 17, 4, 62, 47, 59, 36, 45, 43, 51, 22, 53, 39, 33, 30, 24, 18, 12, 5, 63, 55, 48, 27, 60, 41, 37, 16, 46, 35, 44, 21, 52, 32, 23, 11, 54, 26, 40, 15, 34, 20, 31, 10, 25, 14, 19, 9, 13, 8, 7, 6] :=
    Lib.tabIs_of_head (rest := _) (g := 0) (t := 92) (e := 5) (n := 64) (by kernel_rfl) (by kernel_rfl) (by kernel_rfl) (by kernel_rfl) (by kernel_rfl) (by kernel_rfl) h1
  have hc := fun i hi => ht.cell (g := 0) (by kernel_rfl) i hi
  refine ⟨lt_of_cell (hc 0 (by decide)), fun j hj => ?_⟩
  have hj' : j < 64 := hj
  rw [hc j hj']
  have key : ∀ i : Fin 64, ([0, 1, 56, 2, 57, 49, 28, 3, 61, 58, 42, 50, 38, 29, 17, 4, 62, 47, 59, 36, 45, 43, 51, 22, 53, 39, 33, 30, 24, 18, 12, 5, 63, 55, 48, 27, 60, 41, 37, 16, 46, 35, 44, 21, 52, 32, 23, 11, 54, 26, 40, 15, 34, 20, 31, 10, 25, 14, 19, 9, 13, 8, 7, 6] : List Int).getD i.val 0 = ((Go.Lib.deBruijn64tab.getD i.val 0 : Nat) : Int) := by decide
  rw [key ⟨j, hj'⟩]
/-- WHAT THE WALKS ASK OF THE WORLD, out of the row's list and of the form's shape. -/
theorem laid_of {W : World} (h : laidMetH Tryd.prog Rows.digitsEvenRow.laid W) (_hs : W.ShapedOpen Tryd.prog) : Laid W := by
  rw [MakeChecks.laidMetH_plain _ _ _ (by kernel_rfl)] at h
  have ht := tab_laid h
  exact ⟨ht, bru_laid h, lt_of_cell (ht.cell (g := 1) (by kernel_rfl) 0 (by decide))⟩
section
variable {H : Type} {enc : TypeId × Value → H}
/-- an input that fits, at a world whose shape is known -/
theorem witness_row_shaped {C : Checked} {os : Os} {f : FuncId} {fn : Func} {s : OpenSpec} {conds : List PathCond} {apart : Bool} {laid : List (String × DataW Unit)} (modest : Bool) (w0 : World) (args : Array Value) (hos : w0.os = os)
    (hsh : (w0.forCall (fun _ _ => 0) ⟨#[], args, []⟩).Shaped C.prog) (hok : Input.okWideB C.prog (w0.forCall (fun _ _ => 0) ⟨#[], args, []⟩) f ⟨#[], args, []⟩ = true)
    (hrow : s.preRow enc C.prog fn conds apart laid (w0.forCall (fun _ _ => 0) ⟨#[], args, []⟩).memory args) :
    ∃ (w : World) (tape : Tape) (i : Input), w.os = os ∧ (w.forCall tape i).Shaped C.prog ∧ i.vars = [] ∧ Input.okWide C.prog (w.forCall tape i) .any w.heap.size f i ∧
      s.preRow enc C.prog fn conds apart laid (w.forCall tape i).memory i.args ∧ ({ modest := modest } : Assume).holds C.prog (lone (Frame.enter C.prog f i.args .normal) [] (w.forCall tape i)) :=
  ⟨w0, fun _ _ => 0, ⟨#[], args, []⟩, hos, hsh, (Input.okWide_of_okWideB (base := 0) hok).1, (Input.okWide_of_okWideB hok).2, hrow, by
    simp only [Assume.holds]
    exact ⟨by simp, by simp, fun _ => Modest.zero, by simp, by simp⟩⟩
end
theorem own : ownKnob Tryd.prog.godebug = none := by kernel_rfl
theorem laidOut : laidOutB Tryd.prog = true := by kernel_rfl
end Go.Proofs.YtmocmkfpblakbaaDoor
