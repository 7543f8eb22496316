/- The walk of the script's words. Condition: the act is fresh; the texts lie apart from it; the world is laid. -/
import Derived.Test.YtifdmgloheampaaDoorScriptO
import Derived.RegionTactic
namespace Go.Proofs.YtifdmgloheampaaDoor
open Go.RowKit DiskM ScriptM

/-- a slice of texts -/
def RdS (w : World) (B : Nat) (a : Option Addr) (xs : List (List UInt8)) : Prop := xs = [] ∨ ∃ b o, a = some ⟨b, o, none⟩ ∧ b < B ∧ ∀ (j : Nat) x, xs[j]? = some x → w.cell? ⟨b, o + j, none⟩ = some (sv x)

/-- the boxes of words: the act's, and what its kind has -/
structure WordsAt (w0 w : World) (p H : Nat) (cs hs : Array Value) : Prop where
  bel : Below p w0 w
  act : w.heap[p]? = some (.cells cs 30 (0, 0))
  has : w.heap[H]? = some (.cells hs 47 (0, 0))
  ord : p < H
section
variable {w0 w w' : World} {p H : Nat} {cs hs : Array Value}
theorem WordsAt.call (h : WordsAt w0 w p H cs hs) (hb : Below w.heap.size w w') : WordsAt w0 w' p H cs hs :=
  ⟨h.bel.trans (hb.mono (Nat.le_of_lt (Array.getElem?_eq_some_iff.1 h.act).1)), (hb.block _ (Array.getElem?_eq_some_iff.1 h.act).1).trans h.act, (hb.block _ (Array.getElem?_eq_some_iff.1 h.has).1).trans h.has, h.ord⟩
theorem WordsAt.alloc (h : WordsAt w0 w p H cs hs) (o : Obj) : WordsAt w0 (w.alloc o) p H cs hs := h.call ((Below.refl _ _).alloc (Nat.le_refl _) _)
theorem WordsAt.drew (h : WordsAt w0 w p H cs hs) : WordsAt w0 w.drew p H cs hs := ⟨h.bel.drew, h.act, h.has, h.ord⟩
theorem WordsAt.set (h : WordsAt w0 w p H cs hs) (j : Nat) (v : Value) : WordsAt w0 (w.setCell ⟨p, j, none⟩ v) p H (cs.setIfInBounds j v) hs :=
  ⟨h.bel.setCell (Nat.le_refl _) _, heap_setCell_same _ _ _ _ _ _ h.act, (Below.heap_setCell w _ v H (fun e => by have := h.ord; simp at e; omega)).trans h.has, h.ord⟩
theorem WordsAt.cell (h : WordsAt w0 w p H cs hs) {j : Nat} {v : Value} (hv : cs[j]? = some v) : w.cell? ⟨p, j, none⟩ = some v := by rw [cell_of_row _ _ _ _ _ _ h.act]; exact hv
theorem WordsAt.its (h : WordsAt w0 w p H cs hs) {j : Nat} {v : Value} (hv : hs[j]? = some v) : w.cell? ⟨H, j, none⟩ = some v := by rw [cell_of_row _ _ _ _ _ _ h.has]; exact hv
theorem WordsAt.free (h : WordsAt w0 w p H cs hs) (j : Nat) : w.frozen? ⟨p, j, none⟩ = false := frozen_of_row _ _ _ _ _ h.act
theorem WordsAt.old (h : WordsAt w0 w p H cs hs) {b o : Nat} {v : Value} (hb : b < p) (hv : w0.cell? ⟨b, o, none⟩ = some v) : w.cell? ⟨b, o, none⟩ = some v := (h.bel.cell (p := ⟨b, o, none⟩) hb).trans hv
theorem WordsAt.start {w1 : World} (hp : w0.heap.size = p + 1) (hx : w0.heap[p]? = some (.cells cs 30 (0, 0))) (hb : Below w0.heap.size w0 w1) : WordsAt w0 (w1.alloc (.cells hs 47)) p w1.heap.size cs hs := by
  have h1 : p < w1.heap.size := by have := hb.size; omega
  refine ⟨(hb.mono (by omega)).alloc (by omega) _, ?_, heap_alloc_new _ _, h1⟩
  rw [Below.heap_alloc _ _ _ h1, hb.block p (by omega)]
  exact hx
end
theorem laid_words {w0 w : World} {p H : Nat} {cs hs : Array Value} (hl : Laid w0) (hp : 8 ≤ p) (h : WordsAt w0 w p H cs hs) : Laid w := hl.under h.bel hp
set_option linter.unusedVariables false
set_option maxRecDepth 100000 in
set_option maxHeartbeats 4000000 in
theorem words_n0 (k : Int) (p b o : Nat) (w : World) (hof : hasC k = #[.bool true, .bool false, .bool false, .bool false]) (hb : b < p) (hp8 : 8 ≤ p) (hp : w.heap.size = p + 1)
    (hx : w.heap[p]? = some (.cells #[.int .i64 k, .int .i64 0, .bool false, .slice none 0 0, .string .empty, .int .u32 0] 30 (0, 0))) (hl : Laid w) :
    Calls Tryd.prog 46 #[.pointer (some ⟨p, 0, none⟩), .slice (some ⟨b, o, none⟩) 0 0] w fun e w' => e = .returned (.tuple #[]) ∧ w'.heap[p]? = some (.cells #[.int .i64 k, .int .i64 0, .bool false, .slice none 0 0, .string .empty, .int .u32 0] 30 (0, 0)) ∧ Below p w w' := by
  have HL := Lib.hid hl
  have HO := Lib.hid (of_any k)
  rw [hof] at HO
  have c0 : w.cell? ⟨p, 0, none⟩ = some (.int .i64 k) := cell_of_row _ _ 0 _ _ _ hx
  have HS := Lib.hid (fun (w1 : World) (hb : Below w.heap.size w w1) => WordsAt.start (hs := #[.bool true, .bool false, .bool false, .bool false]) hp hx hb)
  have HP := Lib.hid hp8
  clear hof hl hx hp
  go_enter Tryd.func46, Tryd.ntmps46
  go_wp2_with (first | (refine (HO.out _).mono ?_; rintro e w1 ⟨rfl, hb1⟩; have A := Lib.hid (HS.out _ hb1); clear hb1 c0; have hord := A.out.ord; have d0 := A.out.its (j := 0) rfl; have d1 := A.out.its (j := 1) rfl; have d2 := A.out.its (j := 2) rfl; have d3 := A.out.its (j := 3) rfl; have c0 := A.out.cell (j := 0) rfl; have f0 := A.out.free 0; have c1 := A.out.cell (j := 1) rfl; have f1 := A.out.free 1; have c2 := A.out.cell (j := 2) rfl; have f2 := A.out.free 2; have c3 := A.out.cell (j := 3) rfl; have f3 := A.out.free 3; have c4 := A.out.cell (j := 4) rfl; have f4 := A.out.free 4; have c5 := A.out.cell (j := 5) rfl; have f5 := A.out.free 5))
  go_end0
  exact ⟨rfl, A.out.act, A.out.bel⟩
set_option maxRecDepth 100000 in
set_option maxHeartbeats 4000000 in
theorem words_n1 (k : Int) (p b o : Nat) (x : List UInt8) (w : World) (hof : hasC k = #[.bool true, .bool false, .bool false, .bool false]) (hb : b < p) (hp8 : 8 ≤ p) (hp : w.heap.size = p + 1)
    (hx : w.heap[p]? = some (.cells #[.int .i64 k, .int .i64 0, .bool false, .slice none 0 0, .string .empty, .int .u32 0] 30 (0, 0))) (h0 : w.cell? ⟨b, o, none⟩ = some (sv x)) (l0 : x.length ≤ 1000000) (hl : Laid w) :
    Calls Tryd.prog 46 #[.pointer (some ⟨p, 0, none⟩), .slice (some ⟨b, o, none⟩) 1 1] w fun e w' => e = .returned (.tuple #[]) ∧ w'.heap[p]? = some (.cells #[.int .i64 k, .int .i64 (atoiV x), .bool false, .slice none 0 0, .string .empty, .int .u32 0] 30 (0, 0)) ∧ Below p w w' := by
  have HL := Lib.hid hl
  have HO := Lib.hid (of_any k)
  rw [hof] at HO
  have c0 : w.cell? ⟨p, 0, none⟩ = some (.int .i64 k) := cell_of_row _ _ 0 _ _ _ hx
  have HS := Lib.hid (fun (w1 : World) (hb : Below w.heap.size w w1) => WordsAt.start (hs := #[.bool true, .bool false, .bool false, .bool false]) hp hx hb)
  have HP := Lib.hid hp8
  have HK := Lib.hid (h0)
  have HA := Lib.hid (fun w' (hl' : Laid w') => atoi_any ⟨x.toArray⟩ w' (by show x.toArray.size ≤ _; rw [List.size_toArray]; omega) hl')
  have HA : Hid (∀ w', Laid w' → Calls Tryd.prog 59 #[sv x] w' fun e w'' => ∃ er, e = .returned (.tuple #[.int .i64 (atoiV x), er]) ∧ Below w'.heap.size w' w'') := Lib.hid HA.out
  obtain ⟨NV, hNV⟩ : ∃ NV, atoiV x = NV := ⟨_, rfl⟩
  rw [hNV] at HA ⊢
  clear hof hl hx hp h0 l0 hNV
  go_enter Tryd.func46, Tryd.ntmps46
  go_wp2_with (first | (refine (HO.out _).mono ?_; rintro e w1 ⟨rfl, hb1⟩; have A := Lib.hid (HS.out _ hb1); clear hb1 c0; have hord := A.out.ord; have d0 := A.out.its (j := 0) rfl; have d1 := A.out.its (j := 1) rfl; have d2 := A.out.its (j := 2) rfl; have d3 := A.out.its (j := 3) rfl; have c0 := A.out.cell (j := 0) rfl; have f0 := A.out.free 0; have c1 := A.out.cell (j := 1) rfl; have f1 := A.out.free 1; have c2 := A.out.cell (j := 2) rfl; have f2 := A.out.free 2; have c3 := A.out.cell (j := 3) rfl; have f3 := A.out.free 3; have c4 := A.out.cell (j := 4) rfl; have f4 := A.out.free 4; have c5 := A.out.cell (j := 5) rfl; have f5 := A.out.free 5; have k0 := A.out.old hb HK.out) | (refine (HA.out _ (laid_words HL.out HP.out A.out)).mono ?_; rintro e v1 ⟨er, rfl, hb2⟩; have B0 := Lib.hid (A.out.call hb2); clear hb2; clear d0 d1 d2 d3 c0 f0 c1 f1 c2 f2 c3 f3 c4 f4 c5 f5 k0; have d0 := B0.out.its (j := 0) rfl; have d1 := B0.out.its (j := 1) rfl; have d2 := B0.out.its (j := 2) rfl; have d3 := B0.out.its (j := 3) rfl; have c0 := B0.out.cell (j := 0) rfl; have f0 := B0.out.free 0; have c1 := B0.out.cell (j := 1) rfl; have f1 := B0.out.free 1; have c2 := B0.out.cell (j := 2) rfl; have f2 := B0.out.free 2; have c3 := B0.out.cell (j := 3) rfl; have f3 := B0.out.free 3; have c4 := B0.out.cell (j := 4) rfl; have f4 := B0.out.free 4; have c5 := B0.out.cell (j := 5) rfl; have f5 := B0.out.free 5; have k0 := B0.out.old hb HK.out))
  go_end0
  exact ⟨rfl, (B0.out.set 1 (.int .i64 NV)).act, (B0.out.set 1 (.int .i64 NV)).bel⟩
set_option maxRecDepth 100000 in
set_option maxHeartbeats 4000000 in
theorem words_n2 (k : Int) (p b o n : Nat) (x : List UInt8) (w : World) (hof : hasC k = #[.bool true, .bool false, .bool false, .bool false]) (hn : 2 ≤ n) (hm : n ≤ 1000000) (hb : b < p) (hp8 : 8 ≤ p) (hp : w.heap.size = p + 1)
    (hx : w.heap[p]? = some (.cells #[.int .i64 k, .int .i64 0, .bool false, .slice none 0 0, .string .empty, .int .u32 0] 30 (0, 0))) (h0 : w.cell? ⟨b, o, none⟩ = some (sv x)) (l0 : x.length ≤ 1000000) (hl : Laid w) :
    Calls Tryd.prog 46 #[.pointer (some ⟨p, 0, none⟩), .slice (some ⟨b, o, none⟩) n n] w fun e w' => e = .returned (.tuple #[]) ∧ w'.heap[p]? = some (.cells #[.int .i64 k, .int .i64 (atoiV x), .bool false, .slice none 0 0, .string .empty, .int .u32 0] 30 (0, 0)) ∧ Below p w w' := by
  have HL := Lib.hid hl
  have HO := Lib.hid (of_any k)
  rw [hof] at HO
  have c0 : w.cell? ⟨p, 0, none⟩ = some (.int .i64 k) := cell_of_row _ _ 0 _ _ _ hx
  have HS := Lib.hid (fun (w1 : World) (hb : Below w.heap.size w w1) => WordsAt.start (hs := #[.bool true, .bool false, .bool false, .bool false]) hp hx hb)
  have HP := Lib.hid hp8
  have HK := Lib.hid (h0)
  have HA := Lib.hid (fun w' (hl' : Laid w') => atoi_any ⟨x.toArray⟩ w' (by show x.toArray.size ≤ _; rw [List.size_toArray]; omega) hl')
  have HA : Hid (∀ w', Laid w' → Calls Tryd.prog 59 #[sv x] w' fun e w'' => ∃ er, e = .returned (.tuple #[.int .i64 (atoiV x), er]) ∧ Below w'.heap.size w' w'') := Lib.hid HA.out
  obtain ⟨NV, hNV⟩ : ∃ NV, atoiV x = NV := ⟨_, rfl⟩
  rw [hNV] at HA ⊢
  clear hof hl hx hp h0 l0 hNV
  go_enter Tryd.func46, Tryd.ntmps46
  go_wp2_with (first | (refine (HO.out _).mono ?_; rintro e w1 ⟨rfl, hb1⟩; have A := Lib.hid (HS.out _ hb1); clear hb1 c0; have hord := A.out.ord; have d0 := A.out.its (j := 0) rfl; have d1 := A.out.its (j := 1) rfl; have d2 := A.out.its (j := 2) rfl; have d3 := A.out.its (j := 3) rfl; have c0 := A.out.cell (j := 0) rfl; have f0 := A.out.free 0; have c1 := A.out.cell (j := 1) rfl; have f1 := A.out.free 1; have c2 := A.out.cell (j := 2) rfl; have f2 := A.out.free 2; have c3 := A.out.cell (j := 3) rfl; have f3 := A.out.free 3; have c4 := A.out.cell (j := 4) rfl; have f4 := A.out.free 4; have c5 := A.out.cell (j := 5) rfl; have f5 := A.out.free 5; have k0 := A.out.old hb HK.out) | (refine (HA.out _ (laid_words HL.out HP.out A.out)).mono ?_; rintro e v1 ⟨er, rfl, hb2⟩; have B0 := Lib.hid (A.out.call hb2); clear hb2; clear d0 d1 d2 d3 c0 f0 c1 f1 c2 f2 c3 f3 c4 f4 c5 f5 k0; have d0 := B0.out.its (j := 0) rfl; have d1 := B0.out.its (j := 1) rfl; have d2 := B0.out.its (j := 2) rfl; have d3 := B0.out.its (j := 3) rfl; have c0 := B0.out.cell (j := 0) rfl; have f0 := B0.out.free 0; have c1 := B0.out.cell (j := 1) rfl; have f1 := B0.out.free 1; have c2 := B0.out.cell (j := 2) rfl; have f2 := B0.out.free 2; have c3 := B0.out.cell (j := 3) rfl; have f3 := B0.out.free 3; have c4 := B0.out.cell (j := 4) rfl; have f4 := B0.out.free 4; have c5 := B0.out.cell (j := 5) rfl; have f5 := B0.out.free 5; have k0 := B0.out.old hb HK.out))
  go_end0
  exact ⟨rfl, (B0.out.set 1 (.int .i64 NV)).act, (B0.out.set 1 (.int .i64 NV)).bel⟩
set_option maxRecDepth 100000 in
set_option maxHeartbeats 4000000 in
theorem words_o (k : Int) (p b o n : Nat) (w : World) (hof : hasC k = #[.bool false, .bool false, .bool false, .bool false]) (hn : 0 ≤ n) (hm : n ≤ 1000000) (hb : b < p) (hp8 : 8 ≤ p) (hp : w.heap.size = p + 1)
    (hx : w.heap[p]? = some (.cells #[.int .i64 k, .int .i64 0, .bool false, .slice none 0 0, .string .empty, .int .u32 0] 30 (0, 0))) (hl : Laid w) :
    Calls Tryd.prog 46 #[.pointer (some ⟨p, 0, none⟩), .slice (some ⟨b, o, none⟩) n n] w fun e w' => e = .returned (.tuple #[]) ∧ w'.heap[p]? = some (.cells #[.int .i64 k, .int .i64 0, .bool false, .slice none 0 0, .string .empty, .int .u32 0] 30 (0, 0)) ∧ Below p w w' := by
  have HL := Lib.hid hl
  have HO := Lib.hid (of_any k)
  rw [hof] at HO
  have c0 : w.cell? ⟨p, 0, none⟩ = some (.int .i64 k) := cell_of_row _ _ 0 _ _ _ hx
  have HS := Lib.hid (fun (w1 : World) (hb : Below w.heap.size w w1) => WordsAt.start (hs := #[.bool false, .bool false, .bool false, .bool false]) hp hx hb)
  have HP := Lib.hid hp8
  clear hof hl hx hp
  go_enter Tryd.func46, Tryd.ntmps46
  go_wp2_with (first | (refine (HO.out _).mono ?_; rintro e w1 ⟨rfl, hb1⟩; have A := Lib.hid (HS.out _ hb1); clear hb1 c0; have hord := A.out.ord; have d0 := A.out.its (j := 0) rfl; have d1 := A.out.its (j := 1) rfl; have d2 := A.out.its (j := 2) rfl; have d3 := A.out.its (j := 3) rfl; have c0 := A.out.cell (j := 0) rfl; have f0 := A.out.free 0; have c1 := A.out.cell (j := 1) rfl; have f1 := A.out.free 1; have c2 := A.out.cell (j := 2) rfl; have f2 := A.out.free 2; have c3 := A.out.cell (j := 3) rfl; have f3 := A.out.free 3; have c4 := A.out.cell (j := 4) rfl; have f4 := A.out.free 4; have c5 := A.out.cell (j := 5) rfl; have f5 := A.out.free 5))
  go_end0
  exact ⟨rfl, A.out.act, A.out.bel⟩
set_option maxRecDepth 100000 in
set_option maxHeartbeats 4000000 in
theorem words_a0 (k : Int) (p b o : Nat) (w : World) (hof : hasC k = #[.bool true, .bool true, .bool false, .bool false]) (hb : b < p) (hp8 : 8 ≤ p) (hp : w.heap.size = p + 1)
    (hx : w.heap[p]? = some (.cells #[.int .i64 k, .int .i64 0, .bool false, .slice none 0 0, .string .empty, .int .u32 0] 30 (0, 0))) (hl : Laid w) :
    Calls Tryd.prog 46 #[.pointer (some ⟨p, 0, none⟩), .slice (some ⟨b, o, none⟩) 0 0] w fun e w' => e = .returned (.tuple #[]) ∧ w'.heap[p]? = some (.cells #[.int .i64 k, .int .i64 0, .bool false, .slice none 0 0, .string .empty, .int .u32 0] 30 (0, 0)) ∧ Below p w w' := by
  have HL := Lib.hid hl
  have HO := Lib.hid (of_any k)
  rw [hof] at HO
  have c0 : w.cell? ⟨p, 0, none⟩ = some (.int .i64 k) := cell_of_row _ _ 0 _ _ _ hx
  have HS := Lib.hid (fun (w1 : World) (hb : Below w.heap.size w w1) => WordsAt.start (hs := #[.bool true, .bool true, .bool false, .bool false]) hp hx hb)
  have HP := Lib.hid hp8
  clear hof hl hx hp
  go_enter Tryd.func46, Tryd.ntmps46
  go_wp2_with (first | (refine (HO.out _).mono ?_; rintro e w1 ⟨rfl, hb1⟩; have A := Lib.hid (HS.out _ hb1); clear hb1 c0; have hord := A.out.ord; have d0 := A.out.its (j := 0) rfl; have d1 := A.out.its (j := 1) rfl; have d2 := A.out.its (j := 2) rfl; have d3 := A.out.its (j := 3) rfl; have c0 := A.out.cell (j := 0) rfl; have f0 := A.out.free 0; have c1 := A.out.cell (j := 1) rfl; have f1 := A.out.free 1; have c2 := A.out.cell (j := 2) rfl; have f2 := A.out.free 2; have c3 := A.out.cell (j := 3) rfl; have f3 := A.out.free 3; have c4 := A.out.cell (j := 4) rfl; have f4 := A.out.free 4; have c5 := A.out.cell (j := 5) rfl; have f5 := A.out.free 5))
  go_end0
  exact ⟨rfl, A.out.act, A.out.bel⟩
set_option maxRecDepth 100000 in
set_option maxHeartbeats 4000000 in
theorem words_a1 (k : Int) (p b o : Nat) (x : List UInt8) (w : World) (hof : hasC k = #[.bool true, .bool true, .bool false, .bool false]) (hb : b < p) (hp8 : 8 ≤ p) (hp : w.heap.size = p + 1)
    (hx : w.heap[p]? = some (.cells #[.int .i64 k, .int .i64 0, .bool false, .slice none 0 0, .string .empty, .int .u32 0] 30 (0, 0))) (h0 : w.cell? ⟨b, o, none⟩ = some (sv x)) (l0 : x.length ≤ 1000000) (hl : Laid w) :
    Calls Tryd.prog 46 #[.pointer (some ⟨p, 0, none⟩), .slice (some ⟨b, o, none⟩) 1 1] w fun e w' => e = .returned (.tuple #[]) ∧ w'.heap[p]? = some (.cells #[.int .i64 k, .int .i64 (atoiV x), .bool false, .slice none 0 0, .string .empty, .int .u32 0] 30 (0, 0)) ∧ Below p w w' := by
  have HL := Lib.hid hl
  have HO := Lib.hid (of_any k)
  rw [hof] at HO
  have c0 : w.cell? ⟨p, 0, none⟩ = some (.int .i64 k) := cell_of_row _ _ 0 _ _ _ hx
  have HS := Lib.hid (fun (w1 : World) (hb : Below w.heap.size w w1) => WordsAt.start (hs := #[.bool true, .bool true, .bool false, .bool false]) hp hx hb)
  have HP := Lib.hid hp8
  have HK := Lib.hid (h0)
  have HA := Lib.hid (fun w' (hl' : Laid w') => atoi_any ⟨x.toArray⟩ w' (by show x.toArray.size ≤ _; rw [List.size_toArray]; omega) hl')
  have HA : Hid (∀ w', Laid w' → Calls Tryd.prog 59 #[sv x] w' fun e w'' => ∃ er, e = .returned (.tuple #[.int .i64 (atoiV x), er]) ∧ Below w'.heap.size w' w'') := Lib.hid HA.out
  obtain ⟨NV, hNV⟩ : ∃ NV, atoiV x = NV := ⟨_, rfl⟩
  rw [hNV] at HA ⊢
  clear hof hl hx hp h0 l0 hNV
  go_enter Tryd.func46, Tryd.ntmps46
  go_wp2_with (first | (refine (HO.out _).mono ?_; rintro e w1 ⟨rfl, hb1⟩; have A := Lib.hid (HS.out _ hb1); clear hb1 c0; have hord := A.out.ord; have d0 := A.out.its (j := 0) rfl; have d1 := A.out.its (j := 1) rfl; have d2 := A.out.its (j := 2) rfl; have d3 := A.out.its (j := 3) rfl; have c0 := A.out.cell (j := 0) rfl; have f0 := A.out.free 0; have c1 := A.out.cell (j := 1) rfl; have f1 := A.out.free 1; have c2 := A.out.cell (j := 2) rfl; have f2 := A.out.free 2; have c3 := A.out.cell (j := 3) rfl; have f3 := A.out.free 3; have c4 := A.out.cell (j := 4) rfl; have f4 := A.out.free 4; have c5 := A.out.cell (j := 5) rfl; have f5 := A.out.free 5; have k0 := A.out.old hb HK.out) | (refine (HA.out _ (laid_words HL.out HP.out A.out)).mono ?_; rintro e v1 ⟨er, rfl, hb2⟩; have B0 := Lib.hid (A.out.call hb2); clear hb2; clear d0 d1 d2 d3 c0 f0 c1 f1 c2 f2 c3 f3 c4 f4 c5 f5 k0; have d0 := B0.out.its (j := 0) rfl; have d1 := B0.out.its (j := 1) rfl; have d2 := B0.out.its (j := 2) rfl; have d3 := B0.out.its (j := 3) rfl; have c0 := B0.out.cell (j := 0) rfl; have f0 := B0.out.free 0; have c1 := B0.out.cell (j := 1) rfl; have f1 := B0.out.free 1; have c2 := B0.out.cell (j := 2) rfl; have f2 := B0.out.free 2; have c3 := B0.out.cell (j := 3) rfl; have f3 := B0.out.free 3; have c4 := B0.out.cell (j := 4) rfl; have f4 := B0.out.free 4; have c5 := B0.out.cell (j := 5) rfl; have f5 := B0.out.free 5; have k0 := B0.out.old hb HK.out))
  go_end0
  exact ⟨rfl, (B0.out.set 1 (.int .i64 NV)).act, (B0.out.set 1 (.int .i64 NV)).bel⟩
set_option maxRecDepth 100000 in
set_option maxHeartbeats 4000000 in
theorem words_a2 (k : Int) (p b o n : Nat) (x y : List UInt8) (w : World) (hof : hasC k = #[.bool true, .bool true, .bool false, .bool false]) (hn : 2 ≤ n) (hm : n ≤ 1000000) (hb : b < p) (hp8 : 8 ≤ p) (hp : w.heap.size = p + 1)
    (hx : w.heap[p]? = some (.cells #[.int .i64 k, .int .i64 0, .bool false, .slice none 0 0, .string .empty, .int .u32 0] 30 (0, 0))) (h0 : w.cell? ⟨b, o, none⟩ = some (sv x)) (l0 : x.length ≤ 1000000) (h1 : w.cell? ⟨b, o + 1, none⟩ = some (sv y)) (l1 : y.length ≤ 1000000) (hl : Laid w) :
    Calls Tryd.prog 46 #[.pointer (some ⟨p, 0, none⟩), .slice (some ⟨b, o, none⟩) n n] w fun e w' => e = .returned (.tuple #[]) ∧ w'.heap[p]? = some (.cells #[.int .i64 k, .int .i64 (atoiV x), .bool (y == [100, 111, 110, 101]), .slice none 0 0, .string .empty, .int .u32 0] 30 (0, 0)) ∧ Below p w w' := by
  have HL := Lib.hid hl
  have HO := Lib.hid (of_any k)
  rw [hof] at HO
  have c0 : w.cell? ⟨p, 0, none⟩ = some (.int .i64 k) := cell_of_row _ _ 0 _ _ _ hx
  have HS := Lib.hid (fun (w1 : World) (hb : Below w.heap.size w w1) => WordsAt.start (hs := #[.bool true, .bool true, .bool false, .bool false]) hp hx hb)
  have HP := Lib.hid hp8
  have HK := Lib.hid (And.intro h0 (h1))
  have HA := Lib.hid (fun w' (hl' : Laid w') => atoi_any ⟨x.toArray⟩ w' (by show x.toArray.size ≤ _; rw [List.size_toArray]; omega) hl')
  have HA : Hid (∀ w', Laid w' → Calls Tryd.prog 59 #[sv x] w' fun e w'' => ∃ er, e = .returned (.tuple #[.int .i64 (atoiV x), er]) ∧ Below w'.heap.size w' w'') := Lib.hid HA.out
  obtain ⟨NV, hNV⟩ : ∃ NV, atoiV x = NV := ⟨_, rfl⟩
  rw [hNV] at HA ⊢
  clear hof hl hx hp h0 l0 h1 l1 hNV
  go_enter Tryd.func46, Tryd.ntmps46
  go_wp2_with (first | (refine (HO.out _).mono ?_; rintro e w1 ⟨rfl, hb1⟩; have A := Lib.hid (HS.out _ hb1); clear hb1 c0; have hord := A.out.ord; have d0 := A.out.its (j := 0) rfl; have d1 := A.out.its (j := 1) rfl; have d2 := A.out.its (j := 2) rfl; have d3 := A.out.its (j := 3) rfl; have c0 := A.out.cell (j := 0) rfl; have f0 := A.out.free 0; have c1 := A.out.cell (j := 1) rfl; have f1 := A.out.free 1; have c2 := A.out.cell (j := 2) rfl; have f2 := A.out.free 2; have c3 := A.out.cell (j := 3) rfl; have f3 := A.out.free 3; have c4 := A.out.cell (j := 4) rfl; have f4 := A.out.free 4; have c5 := A.out.cell (j := 5) rfl; have f5 := A.out.free 5; have k0 := A.out.old hb HK.out.1; have k1 := A.out.old hb HK.out.2) | (refine (HA.out _ (laid_words HL.out HP.out A.out)).mono ?_; rintro e v1 ⟨er, rfl, hb2⟩; have B0 := Lib.hid (A.out.call hb2); clear hb2; clear d0 d1 d2 d3 c0 f0 c1 f1 c2 f2 c3 f3 c4 f4 c5 f5 k0 k1; have d0 := B0.out.its (j := 0) rfl; have d1 := B0.out.its (j := 1) rfl; have d2 := B0.out.its (j := 2) rfl; have d3 := B0.out.its (j := 3) rfl; have c0 := B0.out.cell (j := 0) rfl; have f0 := B0.out.free 0; have c1 := B0.out.cell (j := 1) rfl; have f1 := B0.out.free 1; have c2 := B0.out.cell (j := 2) rfl; have f2 := B0.out.free 2; have c3 := B0.out.cell (j := 3) rfl; have f3 := B0.out.free 3; have c4 := B0.out.cell (j := 4) rfl; have f4 := B0.out.free 4; have c5 := B0.out.cell (j := 5) rfl; have f5 := B0.out.free 5; have k0 := B0.out.old hb HK.out.1; have k1 := B0.out.old hb HK.out.2))
  go_end0
  exact ⟨rfl, ((B0.out.set 1 (.int .i64 NV)).set 2 (.bool (y == [100, 111, 110, 101]))).act, ((B0.out.set 1 (.int .i64 NV)).set 2 (.bool (y == [100, 111, 110, 101]))).bel⟩
set_option maxRecDepth 100000 in
set_option maxHeartbeats 4000000 in
theorem words_f0 (k : Int) (p b o : Nat) (w : World) (hof : hasC k = #[.bool true, .bool false, .bool false, .bool true]) (hb : b < p) (hp8 : 8 ≤ p) (hp : w.heap.size = p + 1)
    (hx : w.heap[p]? = some (.cells #[.int .i64 k, .int .i64 0, .bool false, .slice none 0 0, .string .empty, .int .u32 0] 30 (0, 0))) (hl : Laid w) :
    Calls Tryd.prog 46 #[.pointer (some ⟨p, 0, none⟩), .slice (some ⟨b, o, none⟩) 0 0] w fun e w' => e = .returned (.tuple #[]) ∧ w'.heap[p]? = some (.cells #[.int .i64 k, .int .i64 0, .bool false, .slice none 0 0, .string .empty, .int .u32 0] 30 (0, 0)) ∧ Below p w w' := by
  have HL := Lib.hid hl
  have HO := Lib.hid (of_any k)
  rw [hof] at HO
  have c0 : w.cell? ⟨p, 0, none⟩ = some (.int .i64 k) := cell_of_row _ _ 0 _ _ _ hx
  have HS := Lib.hid (fun (w1 : World) (hb : Below w.heap.size w w1) => WordsAt.start (hs := #[.bool true, .bool false, .bool false, .bool true]) hp hx hb)
  have HP := Lib.hid hp8
  clear hof hl hx hp
  go_enter Tryd.func46, Tryd.ntmps46
  go_wp2_with (first | (refine (HO.out _).mono ?_; rintro e w1 ⟨rfl, hb1⟩; have A := Lib.hid (HS.out _ hb1); clear hb1 c0; have hord := A.out.ord; have d0 := A.out.its (j := 0) rfl; have d1 := A.out.its (j := 1) rfl; have d2 := A.out.its (j := 2) rfl; have d3 := A.out.its (j := 3) rfl; have c0 := A.out.cell (j := 0) rfl; have f0 := A.out.free 0; have c1 := A.out.cell (j := 1) rfl; have f1 := A.out.free 1; have c2 := A.out.cell (j := 2) rfl; have f2 := A.out.free 2; have c3 := A.out.cell (j := 3) rfl; have f3 := A.out.free 3; have c4 := A.out.cell (j := 4) rfl; have f4 := A.out.free 4; have c5 := A.out.cell (j := 5) rfl; have f5 := A.out.free 5))
  go_end0
  exact ⟨rfl, A.out.act, A.out.bel⟩
set_option maxRecDepth 100000 in
set_option maxHeartbeats 4000000 in
theorem words_f1 (k : Int) (p b o : Nat) (x : List UInt8) (w : World) (hof : hasC k = #[.bool true, .bool false, .bool false, .bool true]) (hb : b < p) (hp8 : 8 ≤ p) (hp : w.heap.size = p + 1)
    (hx : w.heap[p]? = some (.cells #[.int .i64 k, .int .i64 0, .bool false, .slice none 0 0, .string .empty, .int .u32 0] 30 (0, 0))) (h0 : w.cell? ⟨b, o, none⟩ = some (sv x)) (l0 : x.length ≤ 1000000) (hl : Laid w) :
    Calls Tryd.prog 46 #[.pointer (some ⟨p, 0, none⟩), .slice (some ⟨b, o, none⟩) 1 1] w fun e w' => e = .returned (.tuple #[]) ∧ w'.heap[p]? = some (.cells #[.int .i64 k, .int .i64 0, .bool false, .slice none 0 0, sv x, .int .u32 0] 30 (0, 0)) ∧ Below p w w' := by
  have HL := Lib.hid hl
  have HO := Lib.hid (of_any k)
  rw [hof] at HO
  have c0 : w.cell? ⟨p, 0, none⟩ = some (.int .i64 k) := cell_of_row _ _ 0 _ _ _ hx
  have HS := Lib.hid (fun (w1 : World) (hb : Below w.heap.size w w1) => WordsAt.start (hs := #[.bool true, .bool false, .bool false, .bool true]) hp hx hb)
  have HP := Lib.hid hp8
  have HK := Lib.hid (h0)
  clear hof hl hx hp h0 l0
  go_enter Tryd.func46, Tryd.ntmps46
  go_wp2_with ((refine (HO.out _).mono ?_; rintro e w1 ⟨rfl, hb1⟩; have A := Lib.hid (HS.out _ hb1); clear hb1 c0; have hord := A.out.ord; have d0 := A.out.its (j := 0) rfl; have d1 := A.out.its (j := 1) rfl; have d2 := A.out.its (j := 2) rfl; have d3 := A.out.its (j := 3) rfl; have c0 := A.out.cell (j := 0) rfl; have f0 := A.out.free 0; have c1 := A.out.cell (j := 1) rfl; have f1 := A.out.free 1; have c2 := A.out.cell (j := 2) rfl; have f2 := A.out.free 2; have c3 := A.out.cell (j := 3) rfl; have f3 := A.out.free 3; have c4 := A.out.cell (j := 4) rfl; have f4 := A.out.free 4; have c5 := A.out.cell (j := 5) rfl; have f5 := A.out.free 5; have k0 := A.out.old hb HK.out))
  have A1 := A.out
  obtain ⟨H, hH⟩ : ∃ H, w1.heap.size = H := ⟨_, rfl⟩
  clear d0 d1 d2 d3 c0 f0 c1 f1 c2 f2 c3 f3 c4 f4 c5 f5 k0
  rw [hH] at A1 hord ⊢
  generalize w1.alloc (.cells #[.bool true, .bool false, .bool false, .bool true] 47) = W at *
  clear A hH HS
  have A := Lib.hid A1
  have d0 := A.out.its (j := 0) rfl; have d1 := A.out.its (j := 1) rfl; have d2 := A.out.its (j := 2) rfl; have d3 := A.out.its (j := 3) rfl; have c0 := A.out.cell (j := 0) rfl; have f0 := A.out.free 0; have c1 := A.out.cell (j := 1) rfl; have f1 := A.out.free 1; have c2 := A.out.cell (j := 2) rfl; have f2 := A.out.free 2; have c3 := A.out.cell (j := 3) rfl; have f3 := A.out.free 3; have c4 := A.out.cell (j := 4) rfl; have f4 := A.out.free 4; have c5 := A.out.cell (j := 5) rfl; have f5 := A.out.free 5; have k0 := A.out.old hb HK.out
  clear A1
  go_region
  go_wp2_with (fail)
  go_end0
  exact ⟨rfl, (A.out.set 4 (sv x)).drew.act, (A.out.set 4 (sv x)).drew.bel⟩
set_option maxRecDepth 100000 in
set_option maxHeartbeats 4000000 in
theorem words_f2 (k : Int) (p b o : Nat) (x y : List UInt8) (w : World) (hof : hasC k = #[.bool true, .bool false, .bool false, .bool true]) (hb : b < p) (hp8 : 8 ≤ p) (hp : w.heap.size = p + 1)
    (hx : w.heap[p]? = some (.cells #[.int .i64 k, .int .i64 0, .bool false, .slice none 0 0, .string .empty, .int .u32 0] 30 (0, 0))) (h0 : w.cell? ⟨b, o, none⟩ = some (sv x)) (l0 : x.length ≤ 1000000) (h1 : w.cell? ⟨b, o + 1, none⟩ = some (sv y)) (l1 : y.length ≤ 1000000) (hl : Laid w) :
    Calls Tryd.prog 46 #[.pointer (some ⟨p, 0, none⟩), .slice (some ⟨b, o, none⟩) 2 2] w fun e w' => e = .returned (.tuple #[]) ∧ w'.heap[p]? = some (.cells #[.int .i64 k, .int .i64 (atoiV y), .bool false, .slice none 0 0, sv x, .int .u32 0] 30 (0, 0)) ∧ Below p w w' := by
  have HL := Lib.hid hl
  have HO := Lib.hid (of_any k)
  rw [hof] at HO
  have c0 : w.cell? ⟨p, 0, none⟩ = some (.int .i64 k) := cell_of_row _ _ 0 _ _ _ hx
  have HS := Lib.hid (fun (w1 : World) (hb : Below w.heap.size w w1) => WordsAt.start (hs := #[.bool true, .bool false, .bool false, .bool true]) hp hx hb)
  have HP := Lib.hid hp8
  have HK := Lib.hid (And.intro h0 (h1))
  have HA := Lib.hid (fun w' (hl' : Laid w') => atoi_any ⟨y.toArray⟩ w' (by show y.toArray.size ≤ _; rw [List.size_toArray]; omega) hl')
  have HA : Hid (∀ w', Laid w' → Calls Tryd.prog 59 #[sv y] w' fun e w'' => ∃ er, e = .returned (.tuple #[.int .i64 (atoiV y), er]) ∧ Below w'.heap.size w' w'') := Lib.hid HA.out
  obtain ⟨NV, hNV⟩ : ∃ NV, atoiV y = NV := ⟨_, rfl⟩
  rw [hNV] at HA ⊢
  clear hof hl hx hp h0 l0 h1 l1 hNV
  go_enter Tryd.func46, Tryd.ntmps46
  go_wp2_with ((refine (HO.out _).mono ?_; rintro e w1 ⟨rfl, hb1⟩; have A := Lib.hid (HS.out _ hb1); clear hb1 c0; have hord := A.out.ord; have d0 := A.out.its (j := 0) rfl; have d1 := A.out.its (j := 1) rfl; have d2 := A.out.its (j := 2) rfl; have d3 := A.out.its (j := 3) rfl; have c0 := A.out.cell (j := 0) rfl; have f0 := A.out.free 0; have c1 := A.out.cell (j := 1) rfl; have f1 := A.out.free 1; have c2 := A.out.cell (j := 2) rfl; have f2 := A.out.free 2; have c3 := A.out.cell (j := 3) rfl; have f3 := A.out.free 3; have c4 := A.out.cell (j := 4) rfl; have f4 := A.out.free 4; have c5 := A.out.cell (j := 5) rfl; have f5 := A.out.free 5; have k0 := A.out.old hb HK.out.1; have k1 := A.out.old hb HK.out.2))
  have A1 := A.out
  obtain ⟨H, hH⟩ : ∃ H, w1.heap.size = H := ⟨_, rfl⟩
  clear d0 d1 d2 d3 c0 f0 c1 f1 c2 f2 c3 f3 c4 f4 c5 f5 k0 k1
  rw [hH] at A1 hord ⊢
  generalize w1.alloc (.cells #[.bool true, .bool false, .bool false, .bool true] 47) = W at *
  clear A hH HS
  have A := Lib.hid A1
  have d0 := A.out.its (j := 0) rfl; have d1 := A.out.its (j := 1) rfl; have d2 := A.out.its (j := 2) rfl; have d3 := A.out.its (j := 3) rfl; have c0 := A.out.cell (j := 0) rfl; have f0 := A.out.free 0; have c1 := A.out.cell (j := 1) rfl; have f1 := A.out.free 1; have c2 := A.out.cell (j := 2) rfl; have f2 := A.out.free 2; have c3 := A.out.cell (j := 3) rfl; have f3 := A.out.free 3; have c4 := A.out.cell (j := 4) rfl; have f4 := A.out.free 4; have c5 := A.out.cell (j := 5) rfl; have f5 := A.out.free 5; have k0 := A.out.old hb HK.out.1; have k1 := A.out.old hb HK.out.2
  clear A1
  go_region
  go_wp2_with (first | (refine (HA.out _ (laid_words HL.out HP.out (A.out.set 4 (sv x)).drew)).mono ?_; rintro e v1 ⟨er, rfl, hb2⟩; have B0 := Lib.hid ((A.out.set 4 (sv x)).drew.call hb2); clear hb2; clear d0 d1 d2 d3 c0 f0 c1 f1 c2 f2 c3 f3 c4 f4 c5 f5 k0 k1; have d0 := B0.out.its (j := 0) rfl; have d1 := B0.out.its (j := 1) rfl; have d2 := B0.out.its (j := 2) rfl; have d3 := B0.out.its (j := 3) rfl; have c0 := B0.out.cell (j := 0) rfl; have f0 := B0.out.free 0; have c1 := B0.out.cell (j := 1) rfl; have f1 := B0.out.free 1; have c2 := B0.out.cell (j := 2) rfl; have f2 := B0.out.free 2; have c3 := B0.out.cell (j := 3) rfl; have f3 := B0.out.free 3; have c4 := B0.out.cell (j := 4) rfl; have f4 := B0.out.free 4; have c5 := B0.out.cell (j := 5) rfl; have f5 := B0.out.free 5; have k0 := B0.out.old hb HK.out.1; have k1 := B0.out.old hb HK.out.2))
  go_end0
  exact ⟨rfl, (B0.out.set 1 (.int .i64 NV)).act, (B0.out.set 1 (.int .i64 NV)).bel⟩
set_option maxRecDepth 100000 in
set_option maxHeartbeats 4000000 in
theorem words_f3 (k : Int) (p b o n : Nat) (x y z : List UInt8) (w : World) (hof : hasC k = #[.bool true, .bool false, .bool false, .bool true]) (hn : 3 ≤ n) (hm : n ≤ 1000000) (hb : b < p) (hp8 : 8 ≤ p) (hp : w.heap.size = p + 1)
    (hx : w.heap[p]? = some (.cells #[.int .i64 k, .int .i64 0, .bool false, .slice none 0 0, .string .empty, .int .u32 0] 30 (0, 0))) (h0 : w.cell? ⟨b, o, none⟩ = some (sv x)) (l0 : x.length ≤ 1000000) (h1 : w.cell? ⟨b, o + 1, none⟩ = some (sv y)) (l1 : y.length ≤ 1000000) (h2 : w.cell? ⟨b, o + 2, none⟩ = some (sv z)) (l2 : z.length ≤ 1000000) (hl : Laid w) :
    Calls Tryd.prog 46 #[.pointer (some ⟨p, 0, none⟩), .slice (some ⟨b, o, none⟩) n n] w fun e w' => e = .returned (.tuple #[]) ∧ w'.heap[p]? = some (.cells #[.int .i64 k, .int .i64 (atoiV y), .bool false, .slice none 0 0, sv x, .int .u32 (pu16 z : Int)] 30 (0, 0)) ∧ Below p w w' := by
  have HL := Lib.hid hl
  have HO := Lib.hid (of_any k)
  rw [hof] at HO
  have c0 : w.cell? ⟨p, 0, none⟩ = some (.int .i64 k) := cell_of_row _ _ 0 _ _ _ hx
  have HS := Lib.hid (fun (w1 : World) (hb : Below w.heap.size w w1) => WordsAt.start (hs := #[.bool true, .bool false, .bool false, .bool true]) hp hx hb)
  have HP := Lib.hid hp8
  have HK := Lib.hid (And.intro h0 (And.intro h1 (h2)))
  have HA := Lib.hid (fun w' (hl' : Laid w') => atoi_any ⟨y.toArray⟩ w' (by show y.toArray.size ≤ _; rw [List.size_toArray]; omega) hl')
  have HA : Hid (∀ w', Laid w' → Calls Tryd.prog 59 #[sv y] w' fun e w'' => ∃ er, e = .returned (.tuple #[.int .i64 (atoiV y), er]) ∧ Below w'.heap.size w' w'') := Lib.hid HA.out
  obtain ⟨NV, hNV⟩ : ∃ NV, atoiV y = NV := ⟨_, rfl⟩
  rw [hNV] at HA ⊢
  have HU := Lib.hid (fun w' (hl' : Laid w') => pu16_any ⟨z.toArray⟩ w' (by show z.toArray.size ≤ _; rw [List.size_toArray]; omega) hl')
  have HU : Hid (∀ w', Laid w' → Calls Tryd.prog 60 #[sv z, .int .i64 16, .int .i64 32] w' fun e w'' => ∃ er, e = .returned (.tuple #[.int .u64 (pu16 z : Int), er]) ∧ Below w'.heap.size w' w'') := Lib.hid HU.out
  have hmv := pu16_lt z
  obtain ⟨MV, hMV⟩ : ∃ MV, pu16 z = MV := ⟨_, rfl⟩
  rw [hMV] at HU hmv ⊢
  clear hof hl hx hp h0 l0 h1 l1 h2 l2 hNV hMV
  go_enter Tryd.func46, Tryd.ntmps46
  go_wp2_with ((refine (HO.out _).mono ?_; rintro e w1 ⟨rfl, hb1⟩; have A := Lib.hid (HS.out _ hb1); clear hb1 c0; have hord := A.out.ord; have d0 := A.out.its (j := 0) rfl; have d1 := A.out.its (j := 1) rfl; have d2 := A.out.its (j := 2) rfl; have d3 := A.out.its (j := 3) rfl; have c0 := A.out.cell (j := 0) rfl; have f0 := A.out.free 0; have c1 := A.out.cell (j := 1) rfl; have f1 := A.out.free 1; have c2 := A.out.cell (j := 2) rfl; have f2 := A.out.free 2; have c3 := A.out.cell (j := 3) rfl; have f3 := A.out.free 3; have c4 := A.out.cell (j := 4) rfl; have f4 := A.out.free 4; have c5 := A.out.cell (j := 5) rfl; have f5 := A.out.free 5; have k0 := A.out.old hb HK.out.1; have k1 := A.out.old hb HK.out.2.1; have k2 := A.out.old hb HK.out.2.2))
  have A1 := A.out
  obtain ⟨H, hH⟩ : ∃ H, w1.heap.size = H := ⟨_, rfl⟩
  clear d0 d1 d2 d3 c0 f0 c1 f1 c2 f2 c3 f3 c4 f4 c5 f5 k0 k1 k2
  rw [hH] at A1 hord ⊢
  generalize w1.alloc (.cells #[.bool true, .bool false, .bool false, .bool true] 47) = W at *
  clear A hH HS
  have A := Lib.hid A1
  have d0 := A.out.its (j := 0) rfl; have d1 := A.out.its (j := 1) rfl; have d2 := A.out.its (j := 2) rfl; have d3 := A.out.its (j := 3) rfl; have c0 := A.out.cell (j := 0) rfl; have f0 := A.out.free 0; have c1 := A.out.cell (j := 1) rfl; have f1 := A.out.free 1; have c2 := A.out.cell (j := 2) rfl; have f2 := A.out.free 2; have c3 := A.out.cell (j := 3) rfl; have f3 := A.out.free 3; have c4 := A.out.cell (j := 4) rfl; have f4 := A.out.free 4; have c5 := A.out.cell (j := 5) rfl; have f5 := A.out.free 5; have k0 := A.out.old hb HK.out.1; have k1 := A.out.old hb HK.out.2.1; have k2 := A.out.old hb HK.out.2.2
  clear A1
  go_region
  go_wp2_with (first | (refine (HA.out _ (laid_words HL.out HP.out (A.out.set 4 (sv x)).drew)).mono ?_; rintro e v1 ⟨er, rfl, hb2⟩; have B0 := Lib.hid ((A.out.set 4 (sv x)).drew.call hb2); clear hb2; clear d0 d1 d2 d3 c0 f0 c1 f1 c2 f2 c3 f3 c4 f4 c5 f5 k0 k1 k2; have d0 := B0.out.its (j := 0) rfl; have d1 := B0.out.its (j := 1) rfl; have d2 := B0.out.its (j := 2) rfl; have d3 := B0.out.its (j := 3) rfl; have c0 := B0.out.cell (j := 0) rfl; have f0 := B0.out.free 0; have c1 := B0.out.cell (j := 1) rfl; have f1 := B0.out.free 1; have c2 := B0.out.cell (j := 2) rfl; have f2 := B0.out.free 2; have c3 := B0.out.cell (j := 3) rfl; have f3 := B0.out.free 3; have c4 := B0.out.cell (j := 4) rfl; have f4 := B0.out.free 4; have c5 := B0.out.cell (j := 5) rfl; have f5 := B0.out.free 5; have k0 := B0.out.old hb HK.out.1; have k1 := B0.out.old hb HK.out.2.1; have k2 := B0.out.old hb HK.out.2.2) | (refine (HU.out _ (laid_words HL.out HP.out (B0.out.set 1 (.int .i64 NV)))).mono ?_; rintro e v2 ⟨er, rfl, hb2⟩; have B1 := Lib.hid ((B0.out.set 1 (.int .i64 NV)).call hb2); clear hb2; clear d0 d1 d2 d3 c0 f0 c1 f1 c2 f2 c3 f3 c4 f4 c5 f5 k0 k1 k2; have d0 := B1.out.its (j := 0) rfl; have d1 := B1.out.its (j := 1) rfl; have d2 := B1.out.its (j := 2) rfl; have d3 := B1.out.its (j := 3) rfl; have c0 := B1.out.cell (j := 0) rfl; have f0 := B1.out.free 0; have c1 := B1.out.cell (j := 1) rfl; have f1 := B1.out.free 1; have c2 := B1.out.cell (j := 2) rfl; have f2 := B1.out.free 2; have c3 := B1.out.cell (j := 3) rfl; have f3 := B1.out.free 3; have c4 := B1.out.cell (j := 4) rfl; have f4 := B1.out.free 4; have c5 := B1.out.cell (j := 5) rfl; have f5 := B1.out.free 5; have k0 := B1.out.old hb HK.out.1; have k1 := B1.out.old hb HK.out.2.1; have k2 := B1.out.old hb HK.out.2.2))
  go_end0
  exact ⟨rfl, (B1.out.set 5 (.int .u32 (MV : Int))).act, (B1.out.set 5 (.int .u32 (MV : Int))).bel⟩
end Go.Proofs.YtifdmgloheampaaDoor
