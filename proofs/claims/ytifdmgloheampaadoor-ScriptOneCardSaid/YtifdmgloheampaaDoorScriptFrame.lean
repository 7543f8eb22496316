/- The laid world of this round's rows gives what the walks ask. Condition: the row's list is met; the world has the program's shape. -/
import Derived.Test.YtifdmgloheampaaDoorCards
import Derived.Test.YtifdmgloheampaaDoorTie
import Derived.Test.YtifdmgloheampaaDoorScriptE
import Derived.ProofKit
import Derived.OpenShut
import Derived.Deep.DeepHandedRow
import Derived.Lib.LaidTab
import Derived.Stop.LaidErr
import Derived.Shelf.Vars
import Derived.Lay
namespace Go.Proofs.YtifdmgloheampaaDoor
open Go.RowKit
theorem tab_laid {W : World} (h : laidMet Tryd.prog Rows.scriptReadsRow.laid W) : Lib.TabIs Tryd.prog W "internal/strconv.uint64pow10" .u64 Lib.pow10Tab := by
  have h1 := h.tail.tail
  exact Lib.tabIs_of_head (rest := _) (t := 108) (e := 65) (n := 20) g_tab (by kernel_rfl) (by kernel_rfl) (by kernel_rfl) (by kernel_rfl) (by kernel_rfl) h1
theorem bru_laid {W : World} (h : laidMet Tryd.prog Rows.scriptReadsRow.laid W) : W.cell? ⟨5, 15, none⟩ = some (.int .u8 4) := by
  have h1 := h.tail
  have ht : Lib.TabIs Tryd.prog W "math/bits.deBruijn64tab" .u8 [0, 1, 56, 2, 57, 49, 28, 3, 61, 58, 42, 50, 38, 29, 17, 4, 62, 47, 59, 36, 45, 43, 51, 22, 53, 39, 33, 30, 24, 18, 12, 5, 63, 55, 48, 27, 60, 41, 37, 16, 46, 35, 44, 21, 52, 32, 23, 11, 54, 26, 40, 15, 34, 20, 31, 10, 25, 14, 19, 9, 13, 8, 7, 6] :=
    Lib.tabIs_of_head (rest := _) (g := 5) (t := 127) (e := 5) (n := 64) (by kernel_rfl) (by kernel_rfl) (by kernel_rfl) (by kernel_rfl) (by kernel_rfl) (by kernel_rfl) h1
  exact ht.cell (g := 5) (by kernel_rfl) 15 (by decide)
theorem star : "*" ++ "errors.errorString" = "*errors.errorString" := by decide
theorem row_err (u : TypeId) (h : Tryd.prog.typeName? 3 u = some "*errors.errorString") : u = 134 :=
  typeName_ptr_named (nm := "errors.errorString") (by rw [star]; kernel_rfl) (by kernel_rfl) (by decide) u (by rw [star]; exact h)
theorem rng_laid {W : World} (h : laidMet Tryd.prog Rows.scriptReadsRow.laid W) : ∃ te pe, W.cell? ⟨3, 0, none⟩ = some (.iface te pe) := by
  have h1 := h.tail.tail.tail.tail
  obtain ⟨a1, s1, hv1, _, _, _⟩ := laid_sentinel (g := 3) (ti := 58) (tp := 134) (te := 136) (ts := 9) h1 (by kernel_rfl) (by kernel_rfl) Tryd.underlying58 row_err Tryd.underlying134 Tryd.underlying136 rfl rfl Tryd.underlying9 (by kernel_rfl) (by kernel_rfl)
  exact ⟨_, _, by simpa using World.var?_cell (g := 3) (by kernel_rfl) hv1 0⟩
theorem syn_laid {W : World} (h : laidMet Tryd.prog Rows.scriptReadsRow.laid W) : ∃ te pe, W.cell? ⟨2, 0, none⟩ = some (.iface te pe) := by
  have h1 := h.tail.tail.tail.tail.tail
  obtain ⟨a1, s1, hv1, _, _, _⟩ := laid_sentinel (g := 2) (ti := 58) (tp := 134) (te := 136) (ts := 9) h1 (by kernel_rfl) (by kernel_rfl) Tryd.underlying58 row_err Tryd.underlying134 Tryd.underlying136 rfl rfl Tryd.underlying9 (by kernel_rfl) (by kernel_rfl)
  exact ⟨_, _, by simpa using World.var?_cell (g := 2) (by kernel_rfl) hv1 0⟩
theorem max_laid {W : World} (hs : W.ShapedOpen Tryd.prog) : ∃ m, W.cell? ⟨1, 0, none⟩ = some (.int .i64 m) :=
  cell_of_shapedOpen_int (g := 1) (t := 3) (zero := #[.int .i64 0]) hs (Nat.lt_of_lt_of_eq (by decide : 1 < 8) (by kernel_rfl)) (by kernel_rfl) rfl (by kernel_rfl) (by kernel_rfl) Tryd.underlying3
/-- WHAT THE WALKS ASK OF THE WORLD, out of the row's list and of the form's shape. -/
theorem laid_of {W : World} (h : laidMetH Tryd.prog Rows.scriptReadsRow.laid W) (hs : W.ShapedOpen Tryd.prog) : Laid W := by
  rw [MakeChecks.laidMetH_plain _ _ _ (by kernel_rfl)] at h
  refine ⟨tab_laid h, syn_laid h, rng_laid h, max_laid hs, bru_laid h, ?_⟩
  obtain ⟨cs, hh, _⟩ := hs.1 7 (List.replicate 32 (.int .u8 0)).toArray 131 (Nat.lt_of_lt_of_eq (by decide : 7 < 8) (by kernel_rfl)) (by kernel_rfl)
  have := (Array.getElem?_eq_some_iff.1 hh).1
  omega
section
variable {H : Type} {enc : TypeId × Value → H}
/-- an input that fits, at a world whose shape is known -/
theorem witness_row_shaped {C : Checked} {os : Os} {f : FuncId} {fn : Func} {s : OpenSpec} {conds : List PathCond} {apart : Bool} {laid : List (String × DataW Unit)} (modest : Bool) (w0 : World) (args : Array Value) (hos : w0.os = os)
    (hsh : (w0.forCall (fun _ _ => 0) ⟨#[], args, []⟩).Shaped C.prog) (hok : Input.okWideB C.prog (w0.forCall (fun _ _ => 0) ⟨#[], args, []⟩) f ⟨#[], args, []⟩ = true)
    (hrow : s.preRow enc C.prog fn conds apart laid (w0.forCall (fun _ _ => 0) ⟨#[], args, []⟩).memory args) :
    ∃ (w : World) (tape : Tape) (i : Input), w.os = os ∧ (w.forCall tape i).Shaped C.prog ∧ i.vars = [] ∧ Input.okWide C.prog (w.forCall tape i) .any w.heap.size f i ∧
      s.preRow enc C.prog fn conds apart laid (w.forCall tape i).memory i.args ∧ ({ modest := modest } : Assume).holds C.prog (lone (Frame.enter C.prog f i.args .normal) [] (w.forCall tape i)) :=
  ⟨w0, fun _ _ => 0, ⟨#[], args, []⟩, hos, hsh, (Input.okWide_of_okWideB (base := 0) hok).1, (Input.okWide_of_okWideB hok).2, hrow, by
    simp only [Assume.holds]
    exact ⟨by simp, by simp, fun _ => Modest.zero, by simp, by simp⟩⟩
end
theorem own : ownKnob Tryd.prog.godebug = none := by kernel_rfl
theorem laidOut : laidOutB Tryd.prog = true := by kernel_rfl
end Go.Proofs.YtifdmgloheampaaDoor
