/- The walk of the script's words. Condition: the act is fresh; the texts lie apart from it; the world is laid. -/
/- The walk of the script's words at a crash. Condition: the act is fresh; the texts lie apart from it; the world is laid. -/
/- The script's words at any kind and any texts: what the plain model says. Condition: the act is fresh; the texts lie apart from it; the world is laid. -/
import Derived.Test.YtifdmgloheampaaDoorScriptO
import Derived.RegionTactic
import Derived.Test.YtifdmgloheampaaDoorScriptI
namespace Go.Proofs.YtifdmgloheampaaDoor
open Go.RowKit DiskM ScriptM

/-- a slice of texts -/
def RdS (w : World) (B : Nat) (a : Option Addr) (xs : List (List UInt8)) : Prop := xs = [] ∨ ∃ b o, a = some ⟨b, o, none⟩ ∧ b < B ∧ ∀ (j : Nat) x, xs[j]? = some x → w.cell? ⟨b, o + j, none⟩ = some (sv x)

/-- the boxes of words: the act's, and what its kind has -/
structure WordsAt (w0 w : World) (p H : Nat) (cs hs : Array Value) : Prop where
  bel : Below p w0 w
  act : w.heap[p]? = some (.cells cs 30 (0, 0))
  has : w.heap[H]? = some (.cells hs 47 (0, 0))
  ord : p < H
section
variable {w0 w w' : World} {p H : Nat} {cs hs : Array Value}
theorem WordsAt.call (h : WordsAt w0 w p H cs hs) (hb : Below w.heap.size w w') : WordsAt w0 w' p H cs hs :=
  ⟨h.bel.trans (hb.mono (Nat.le_of_lt (Array.getElem?_eq_some_iff.1 h.act).1)), (hb.block _ (Array.getElem?_eq_some_iff.1 h.act).1).trans h.act, (hb.block _ (Array.getElem?_eq_some_iff.1 h.has).1).trans h.has, h.ord⟩
theorem WordsAt.alloc (h : WordsAt w0 w p H cs hs) (o : Obj) : WordsAt w0 (w.alloc o) p H cs hs := h.call ((Below.refl _ _).alloc (Nat.le_refl _) _)
theorem WordsAt.drew (h : WordsAt w0 w p H cs hs) : WordsAt w0 w.drew p H cs hs := ⟨h.bel.drew, h.act, h.has, h.ord⟩
theorem WordsAt.set (h : WordsAt w0 w p H cs hs) (j : Nat) (v : Value) : WordsAt w0 (w.setCell ⟨p, j, none⟩ v) p H (cs.setIfInBounds j v) hs :=
  ⟨h.bel.setCell (Nat.le_refl _) _, heap_setCell_same _ _ _ _ _ _ h.act, (Below.heap_setCell w _ v H (fun e => by have := h.ord; simp at e; omega)).trans h.has, h.ord⟩
theorem WordsAt.cell (h : WordsAt w0 w p H cs hs) {j : Nat} {v : Value} (hv : cs[j]? = some v) : w.cell? ⟨p, j, none⟩ = some v := by rw [cell_of_row _ _ _ _ _ _ h.act]; exact hv
theorem WordsAt.its (h : WordsAt w0 w p H cs hs) {j : Nat} {v : Value} (hv : hs[j]? = some v) : w.cell? ⟨H, j, none⟩ = some v := by rw [cell_of_row _ _ _ _ _ _ h.has]; exact hv
theorem WordsAt.free (h : WordsAt w0 w p H cs hs) (j : Nat) : w.frozen? ⟨p, j, none⟩ = false := frozen_of_row _ _ _ _ _ h.act
theorem WordsAt.old (h : WordsAt w0 w p H cs hs) {b o : Nat} {v : Value} (hb : b < p) (hv : w0.cell? ⟨b, o, none⟩ = some v) : w.cell? ⟨b, o, none⟩ = some v := (h.bel.cell (p := ⟨b, o, none⟩) hb).trans hv
theorem WordsAt.start {w1 : World} (hp : w0.heap.size = p + 1) (hx : w0.heap[p]? = some (.cells cs 30 (0, 0))) (hb : Below w0.heap.size w0 w1) : WordsAt w0 (w1.alloc (.cells hs 47)) p w1.heap.size cs hs := by
  have h1 : p < w1.heap.size := by have := hb.size; omega
  refine ⟨(hb.mono (by omega)).alloc (by omega) _, ?_, heap_alloc_new _ _, h1⟩
  rw [Below.heap_alloc _ _ _ h1, hb.block p (by omega)]
  exact hx
end
theorem laid_words {w0 w : World} {p H : Nat} {cs hs : Array Value} (hl : Laid w0) (hp : 8 ≤ p) (h : WordsAt w0 w p H cs hs) : Laid w := hl.under h.bel hp
set_option linter.unusedVariables false
set_option maxRecDepth 100000 in
set_option maxHeartbeats 4000000 in
theorem words_n0 (k : Int) (p b o : Nat) (w : World) (hof : hasC k = #[.bool true, .bool false, .bool false, .bool false]) (hb : b < p) (hp8 : 8 ≤ p) (hp : w.heap.size = p + 1)
    (hx : w.heap[p]? = some (.cells #[.int .i64 k, .int .i64 0, .bool false, .slice none 0 0, .string .empty, .int .u32 0] 30 (0, 0))) (hl : Laid w) :
    Calls Tryd.prog 46 #[.pointer (some ⟨p, 0, none⟩), .slice (some ⟨b, o, none⟩) 0 0] w fun e w' => e = .returned (.tuple #[]) ∧ w'.heap[p]? = some (.cells #[.int .i64 k, .int .i64 0, .bool false, .slice none 0 0, .string .empty, .int .u32 0] 30 (0, 0)) ∧ Below p w w' := by
  have HL := Lib.hid hl
  have HO := Lib.hid (of_any k)
  rw [hof] at HO
  have c0 : w.cell? ⟨p, 0, none⟩ = some (.int .i64 k) := cell_of_row _ _ 0 _ _ _ hx
  have HS := Lib.hid (fun (w1 : World) (hb : Below w.heap.size w w1) => WordsAt.start (hs := #[.bool true, .bool false, .bool false, .bool false]) hp hx hb)
  have HP := Lib.hid hp8
  clear hof hl hx hp
  go_enter Tryd.func46, Tryd.ntmps46
  go_wp2_with (first | (refine (HO.out _).mono ?_; rintro e w1 ⟨rfl, hb1⟩; have A := Lib.hid (HS.out _ hb1); clear hb1 c0; have hord := A.out.ord; have d0 := A.out.its (j := 0) rfl; have d1 := A.out.its (j := 1) rfl; have d2 := A.out.its (j := 2) rfl; have d3 := A.out.its (j := 3) rfl; have c0 := A.out.cell (j := 0) rfl; have f0 := A.out.free 0; have c1 := A.out.cell (j := 1) rfl; have f1 := A.out.free 1; have c2 := A.out.cell (j := 2) rfl; have f2 := A.out.free 2; have c3 := A.out.cell (j := 3) rfl; have f3 := A.out.free 3; have c4 := A.out.cell (j := 4) rfl; have f4 := A.out.free 4; have c5 := A.out.cell (j := 5) rfl; have f5 := A.out.free 5))
  go_end0
  exact ⟨rfl, A.out.act, A.out.bel⟩
set_option maxRecDepth 100000 in
set_option maxHeartbeats 4000000 in
theorem words_n1 (k : Int) (p b o : Nat) (x : List UInt8) (w : World) (hof : hasC k = #[.bool true, .bool false, .bool false, .bool false]) (hb : b < p) (hp8 : 8 ≤ p) (hp : w.heap.size = p + 1)
    (hx : w.heap[p]? = some (.cells #[.int .i64 k, .int .i64 0, .bool false, .slice none 0 0, .string .empty, .int .u32 0] 30 (0, 0))) (h0 : w.cell? ⟨b, o, none⟩ = some (sv x)) (l0 : x.length ≤ 1000000) (hl : Laid w) :
    Calls Tryd.prog 46 #[.pointer (some ⟨p, 0, none⟩), .slice (some ⟨b, o, none⟩) 1 1] w fun e w' => e = .returned (.tuple #[]) ∧ w'.heap[p]? = some (.cells #[.int .i64 k, .int .i64 (atoiV x), .bool false, .slice none 0 0, .string .empty, .int .u32 0] 30 (0, 0)) ∧ Below p w w' := by
  have HL := Lib.hid hl
  have HO := Lib.hid (of_any k)
  rw [hof] at HO
  have c0 : w.cell? ⟨p, 0, none⟩ = some (.int .i64 k) := cell_of_row _ _ 0 _ _ _ hx
  have HS := Lib.hid (fun (w1 : World) (hb : Below w.heap.size w w1) => WordsAt.start (hs := #[.bool true, .bool false, .bool false, .bool false]) hp hx hb)
  have HP := Lib.hid hp8
  have HK := Lib.hid (h0)
  have HA := Lib.hid (fun w' (hl' : Laid w') => atoi_any ⟨x.toArray⟩ w' (by show x.toArray.size ≤ _; rw [List.size_toArray]; omega) hl')
  have HA : Hid (∀ w', Laid w' → Calls Tryd.prog 59 #[sv x] w' fun e w'' => ∃ er, e = .returned (.tuple #[.int .i64 (atoiV x), er]) ∧ Below w'.heap.size w' w'') := Lib.hid HA.out
  obtain ⟨NV, hNV⟩ : ∃ NV, atoiV x = NV := ⟨_, rfl⟩
  rw [hNV] at HA ⊢
  clear hof hl hx hp h0 l0 hNV
  go_enter Tryd.func46, Tryd.ntmps46
  go_wp2_with (first | (refine (HO.out _).mono ?_; rintro e w1 ⟨rfl, hb1⟩; have A := Lib.hid (HS.out _ hb1); clear hb1 c0; have hord := A.out.ord; have d0 := A.out.its (j := 0) rfl; have d1 := A.out.its (j := 1) rfl; have d2 := A.out.its (j := 2) rfl; have d3 := A.out.its (j := 3) rfl; have c0 := A.out.cell (j := 0) rfl; have f0 := A.out.free 0; have c1 := A.out.cell (j := 1) rfl; have f1 := A.out.free 1; have c2 := A.out.cell (j := 2) rfl; have f2 := A.out.free 2; have c3 := A.out.cell (j := 3) rfl; have f3 := A.out.free 3; have c4 := A.out.cell (j := 4) rfl; have f4 := A.out.free 4; have c5 := A.out.cell (j := 5) rfl; have f5 := A.out.free 5; have k0 := A.out.old hb HK.out) | (refine (HA.out _ (laid_words HL.out HP.out A.out)).mono ?_; rintro e v1 ⟨er, rfl, hb2⟩; have B0 := Lib.hid (A.out.call hb2); clear hb2; clear d0 d1 d2 d3 c0 f0 c1 f1 c2 f2 c3 f3 c4 f4 c5 f5 k0; have d0 := B0.out.its (j := 0) rfl; have d1 := B0.out.its (j := 1) rfl; have d2 := B0.out.its (j := 2) rfl; have d3 := B0.out.its (j := 3) rfl; have c0 := B0.out.cell (j := 0) rfl; have f0 := B0.out.free 0; have c1 := B0.out.cell (j := 1) rfl; have f1 := B0.out.free 1; have c2 := B0.out.cell (j := 2) rfl; have f2 := B0.out.free 2; have c3 := B0.out.cell (j := 3) rfl; have f3 := B0.out.free 3; have c4 := B0.out.cell (j := 4) rfl; have f4 := B0.out.free 4; have c5 := B0.out.cell (j := 5) rfl; have f5 := B0.out.free 5; have k0 := B0.out.old hb HK.out))
  go_end0
  exact ⟨rfl, (B0.out.set 1 (.int .i64 NV)).act, (B0.out.set 1 (.int .i64 NV)).bel⟩
set_option maxRecDepth 100000 in
set_option maxHeartbeats 4000000 in
theorem words_n2 (k : Int) (p b o n : Nat) (x : List UInt8) (w : World) (hof : hasC k = #[.bool true, .bool false, .bool false, .bool false]) (hn : 2 ≤ n) (hm : n ≤ 1000000) (hb : b < p) (hp8 : 8 ≤ p) (hp : w.heap.size = p + 1)
    (hx : w.heap[p]? = some (.cells #[.int .i64 k, .int .i64 0, .bool false, .slice none 0 0, .string .empty, .int .u32 0] 30 (0, 0))) (h0 : w.cell? ⟨b, o, none⟩ = some (sv x)) (l0 : x.length ≤ 1000000) (hl : Laid w) :
    Calls Tryd.prog 46 #[.pointer (some ⟨p, 0, none⟩), .slice (some ⟨b, o, none⟩) n n] w fun e w' => e = .returned (.tuple #[]) ∧ w'.heap[p]? = some (.cells #[.int .i64 k, .int .i64 (atoiV x), .bool false, .slice none 0 0, .string .empty, .int .u32 0] 30 (0, 0)) ∧ Below p w w' := by
  have HL := Lib.hid hl
  have HO := Lib.hid (of_any k)
  rw [hof] at HO
  have c0 : w.cell? ⟨p, 0, none⟩ = some (.int .i64 k) := cell_of_row _ _ 0 _ _ _ hx
  have HS := Lib.hid (fun (w1 : World) (hb : Below w.heap.size w w1) => WordsAt.start (hs := #[.bool true, .bool false, .bool false, .bool false]) hp hx hb)
  have HP := Lib.hid hp8
  have HK := Lib.hid (h0)
  have HA := Lib.hid (fun w' (hl' : Laid w') => atoi_any ⟨x.toArray⟩ w' (by show x.toArray.size ≤ _; rw [List.size_toArray]; omega) hl')
  have HA : Hid (∀ w', Laid w' → Calls Tryd.prog 59 #[sv x] w' fun e w'' => ∃ er, e = .returned (.tuple #[.int .i64 (atoiV x), er]) ∧ Below w'.heap.size w' w'') := Lib.hid HA.out
  obtain ⟨NV, hNV⟩ : ∃ NV, atoiV x = NV := ⟨_, rfl⟩
  rw [hNV] at HA ⊢
  clear hof hl hx hp h0 l0 hNV
  go_enter Tryd.func46, Tryd.ntmps46
  go_wp2_with (first | (refine (HO.out _).mono ?_; rintro e w1 ⟨rfl, hb1⟩; have A := Lib.hid (HS.out _ hb1); clear hb1 c0; have hord := A.out.ord; have d0 := A.out.its (j := 0) rfl; have d1 := A.out.its (j := 1) rfl; have d2 := A.out.its (j := 2) rfl; have d3 := A.out.its (j := 3) rfl; have c0 := A.out.cell (j := 0) rfl; have f0 := A.out.free 0; have c1 := A.out.cell (j := 1) rfl; have f1 := A.out.free 1; have c2 := A.out.cell (j := 2) rfl; have f2 := A.out.free 2; have c3 := A.out.cell (j := 3) rfl; have f3 := A.out.free 3; have c4 := A.out.cell (j := 4) rfl; have f4 := A.out.free 4; have c5 := A.out.cell (j := 5) rfl; have f5 := A.out.free 5; have k0 := A.out.old hb HK.out) | (refine (HA.out _ (laid_words HL.out HP.out A.out)).mono ?_; rintro e v1 ⟨er, rfl, hb2⟩; have B0 := Lib.hid (A.out.call hb2); clear hb2; clear d0 d1 d2 d3 c0 f0 c1 f1 c2 f2 c3 f3 c4 f4 c5 f5 k0; have d0 := B0.out.its (j := 0) rfl; have d1 := B0.out.its (j := 1) rfl; have d2 := B0.out.its (j := 2) rfl; have d3 := B0.out.its (j := 3) rfl; have c0 := B0.out.cell (j := 0) rfl; have f0 := B0.out.free 0; have c1 := B0.out.cell (j := 1) rfl; have f1 := B0.out.free 1; have c2 := B0.out.cell (j := 2) rfl; have f2 := B0.out.free 2; have c3 := B0.out.cell (j := 3) rfl; have f3 := B0.out.free 3; have c4 := B0.out.cell (j := 4) rfl; have f4 := B0.out.free 4; have c5 := B0.out.cell (j := 5) rfl; have f5 := B0.out.free 5; have k0 := B0.out.old hb HK.out))
  go_end0
  exact ⟨rfl, (B0.out.set 1 (.int .i64 NV)).act, (B0.out.set 1 (.int .i64 NV)).bel⟩
set_option maxRecDepth 100000 in
set_option maxHeartbeats 4000000 in
theorem words_o (k : Int) (p b o n : Nat) (w : World) (hof : hasC k = #[.bool false, .bool false, .bool false, .bool false]) (hn : 0 ≤ n) (hm : n ≤ 1000000) (hb : b < p) (hp8 : 8 ≤ p) (hp : w.heap.size = p + 1)
    (hx : w.heap[p]? = some (.cells #[.int .i64 k, .int .i64 0, .bool false, .slice none 0 0, .string .empty, .int .u32 0] 30 (0, 0))) (hl : Laid w) :
    Calls Tryd.prog 46 #[.pointer (some ⟨p, 0, none⟩), .slice (some ⟨b, o, none⟩) n n] w fun e w' => e = .returned (.tuple #[]) ∧ w'.heap[p]? = some (.cells #[.int .i64 k, .int .i64 0, .bool false, .slice none 0 0, .string .empty, .int .u32 0] 30 (0, 0)) ∧ Below p w w' := by
  have HL := Lib.hid hl
  have HO := Lib.hid (of_any k)
  rw [hof] at HO
  have c0 : w.cell? ⟨p, 0, none⟩ = some (.int .i64 k) := cell_of_row _ _ 0 _ _ _ hx
  have HS := Lib.hid (fun (w1 : World) (hb : Below w.heap.size w w1) => WordsAt.start (hs := #[.bool false, .bool false, .bool false, .bool false]) hp hx hb)
  have HP := Lib.hid hp8
  clear hof hl hx hp
  go_enter Tryd.func46, Tryd.ntmps46
  go_wp2_with (first | (refine (HO.out _).mono ?_; rintro e w1 ⟨rfl, hb1⟩; have A := Lib.hid (HS.out _ hb1); clear hb1 c0; have hord := A.out.ord; have d0 := A.out.its (j := 0) rfl; have d1 := A.out.its (j := 1) rfl; have d2 := A.out.its (j := 2) rfl; have d3 := A.out.its (j := 3) rfl; have c0 := A.out.cell (j := 0) rfl; have f0 := A.out.free 0; have c1 := A.out.cell (j := 1) rfl; have f1 := A.out.free 1; have c2 := A.out.cell (j := 2) rfl; have f2 := A.out.free 2; have c3 := A.out.cell (j := 3) rfl; have f3 := A.out.free 3; have c4 := A.out.cell (j := 4) rfl; have f4 := A.out.free 4; have c5 := A.out.cell (j := 5) rfl; have f5 := A.out.free 5))
  go_end0
  exact ⟨rfl, A.out.act, A.out.bel⟩
set_option maxRecDepth 100000 in
set_option maxHeartbeats 4000000 in
theorem words_a0 (k : Int) (p b o : Nat) (w : World) (hof : hasC k = #[.bool true, .bool true, .bool false, .bool false]) (hb : b < p) (hp8 : 8 ≤ p) (hp : w.heap.size = p + 1)
    (hx : w.heap[p]? = some (.cells #[.int .i64 k, .int .i64 0, .bool false, .slice none 0 0, .string .empty, .int .u32 0] 30 (0, 0))) (hl : Laid w) :
    Calls Tryd.prog 46 #[.pointer (some ⟨p, 0, none⟩), .slice (some ⟨b, o, none⟩) 0 0] w fun e w' => e = .returned (.tuple #[]) ∧ w'.heap[p]? = some (.cells #[.int .i64 k, .int .i64 0, .bool false, .slice none 0 0, .string .empty, .int .u32 0] 30 (0, 0)) ∧ Below p w w' := by
  have HL := Lib.hid hl
  have HO := Lib.hid (of_any k)
  rw [hof] at HO
  have c0 : w.cell? ⟨p, 0, none⟩ = some (.int .i64 k) := cell_of_row _ _ 0 _ _ _ hx
  have HS := Lib.hid (fun (w1 : World) (hb : Below w.heap.size w w1) => WordsAt.start (hs := #[.bool true, .bool true, .bool false, .bool false]) hp hx hb)
  have HP := Lib.hid hp8
  clear hof hl hx hp
  go_enter Tryd.func46, Tryd.ntmps46
  go_wp2_with (first | (refine (HO.out _).mono ?_; rintro e w1 ⟨rfl, hb1⟩; have A := Lib.hid (HS.out _ hb1); clear hb1 c0; have hord := A.out.ord; have d0 := A.out.its (j := 0) rfl; have d1 := A.out.its (j := 1) rfl; have d2 := A.out.its (j := 2) rfl; have d3 := A.out.its (j := 3) rfl; have c0 := A.out.cell (j := 0) rfl; have f0 := A.out.free 0; have c1 := A.out.cell (j := 1) rfl; have f1 := A.out.free 1; have c2 := A.out.cell (j := 2) rfl; have f2 := A.out.free 2; have c3 := A.out.cell (j := 3) rfl; have f3 := A.out.free 3; have c4 := A.out.cell (j := 4) rfl; have f4 := A.out.free 4; have c5 := A.out.cell (j := 5) rfl; have f5 := A.out.free 5))
  go_end0
  exact ⟨rfl, A.out.act, A.out.bel⟩
set_option maxRecDepth 100000 in
set_option maxHeartbeats 4000000 in
theorem words_a1 (k : Int) (p b o : Nat) (x : List UInt8) (w : World) (hof : hasC k = #[.bool true, .bool true, .bool false, .bool false]) (hb : b < p) (hp8 : 8 ≤ p) (hp : w.heap.size = p + 1)
    (hx : w.heap[p]? = some (.cells #[.int .i64 k, .int .i64 0, .bool false, .slice none 0 0, .string .empty, .int .u32 0] 30 (0, 0))) (h0 : w.cell? ⟨b, o, none⟩ = some (sv x)) (l0 : x.length ≤ 1000000) (hl : Laid w) :
    Calls Tryd.prog 46 #[.pointer (some ⟨p, 0, none⟩), .slice (some ⟨b, o, none⟩) 1 1] w fun e w' => e = .returned (.tuple #[]) ∧ w'.heap[p]? = some (.cells #[.int .i64 k, .int .i64 (atoiV x), .bool false, .slice none 0 0, .string .empty, .int .u32 0] 30 (0, 0)) ∧ Below p w w' := by
  have HL := Lib.hid hl
  have HO := Lib.hid (of_any k)
  rw [hof] at HO
  have c0 : w.cell? ⟨p, 0, none⟩ = some (.int .i64 k) := cell_of_row _ _ 0 _ _ _ hx
  have HS := Lib.hid (fun (w1 : World) (hb : Below w.heap.size w w1) => WordsAt.start (hs := #[.bool true, .bool true, .bool false, .bool false]) hp hx hb)
  have HP := Lib.hid hp8
  have HK := Lib.hid (h0)
  have HA := Lib.hid (fun w' (hl' : Laid w') => atoi_any ⟨x.toArray⟩ w' (by show x.toArray.size ≤ _; rw [List.size_toArray]; omega) hl')
  have HA : Hid (∀ w', Laid w' → Calls Tryd.prog 59 #[sv x] w' fun e w'' => ∃ er, e = .returned (.tuple #[.int .i64 (atoiV x), er]) ∧ Below w'.heap.size w' w'') := Lib.hid HA.out
  obtain ⟨NV, hNV⟩ : ∃ NV, atoiV x = NV := ⟨_, rfl⟩
  rw [hNV] at HA ⊢
  clear hof hl hx hp h0 l0 hNV
  go_enter Tryd.func46, Tryd.ntmps46
  go_wp2_with (first | (refine (HO.out _).mono ?_; rintro e w1 ⟨rfl, hb1⟩; have A := Lib.hid (HS.out _ hb1); clear hb1 c0; have hord := A.out.ord; have d0 := A.out.its (j := 0) rfl; have d1 := A.out.its (j := 1) rfl; have d2 := A.out.its (j := 2) rfl; have d3 := A.out.its (j := 3) rfl; have c0 := A.out.cell (j := 0) rfl; have f0 := A.out.free 0; have c1 := A.out.cell (j := 1) rfl; have f1 := A.out.free 1; have c2 := A.out.cell (j := 2) rfl; have f2 := A.out.free 2; have c3 := A.out.cell (j := 3) rfl; have f3 := A.out.free 3; have c4 := A.out.cell (j := 4) rfl; have f4 := A.out.free 4; have c5 := A.out.cell (j := 5) rfl; have f5 := A.out.free 5; have k0 := A.out.old hb HK.out) | (refine (HA.out _ (laid_words HL.out HP.out A.out)).mono ?_; rintro e v1 ⟨er, rfl, hb2⟩; have B0 := Lib.hid (A.out.call hb2); clear hb2; clear d0 d1 d2 d3 c0 f0 c1 f1 c2 f2 c3 f3 c4 f4 c5 f5 k0; have d0 := B0.out.its (j := 0) rfl; have d1 := B0.out.its (j := 1) rfl; have d2 := B0.out.its (j := 2) rfl; have d3 := B0.out.its (j := 3) rfl; have c0 := B0.out.cell (j := 0) rfl; have f0 := B0.out.free 0; have c1 := B0.out.cell (j := 1) rfl; have f1 := B0.out.free 1; have c2 := B0.out.cell (j := 2) rfl; have f2 := B0.out.free 2; have c3 := B0.out.cell (j := 3) rfl; have f3 := B0.out.free 3; have c4 := B0.out.cell (j := 4) rfl; have f4 := B0.out.free 4; have c5 := B0.out.cell (j := 5) rfl; have f5 := B0.out.free 5; have k0 := B0.out.old hb HK.out))
  go_end0
  exact ⟨rfl, (B0.out.set 1 (.int .i64 NV)).act, (B0.out.set 1 (.int .i64 NV)).bel⟩
set_option maxRecDepth 100000 in
set_option maxHeartbeats 4000000 in
theorem words_a2 (k : Int) (p b o n : Nat) (x y : List UInt8) (w : World) (hof : hasC k = #[.bool true, .bool true, .bool false, .bool false]) (hn : 2 ≤ n) (hm : n ≤ 1000000) (hb : b < p) (hp8 : 8 ≤ p) (hp : w.heap.size = p + 1)
    (hx : w.heap[p]? = some (.cells #[.int .i64 k, .int .i64 0, .bool false, .slice none 0 0, .string .empty, .int .u32 0] 30 (0, 0))) (h0 : w.cell? ⟨b, o, none⟩ = some (sv x)) (l0 : x.length ≤ 1000000) (h1 : w.cell? ⟨b, o + 1, none⟩ = some (sv y)) (l1 : y.length ≤ 1000000) (hl : Laid w) :
    Calls Tryd.prog 46 #[.pointer (some ⟨p, 0, none⟩), .slice (some ⟨b, o, none⟩) n n] w fun e w' => e = .returned (.tuple #[]) ∧ w'.heap[p]? = some (.cells #[.int .i64 k, .int .i64 (atoiV x), .bool (y == [100, 111, 110, 101]), .slice none 0 0, .string .empty, .int .u32 0] 30 (0, 0)) ∧ Below p w w' := by
  have HL := Lib.hid hl
  have HO := Lib.hid (of_any k)
  rw [hof] at HO
  have c0 : w.cell? ⟨p, 0, none⟩ = some (.int .i64 k) := cell_of_row _ _ 0 _ _ _ hx
  have HS := Lib.hid (fun (w1 : World) (hb : Below w.heap.size w w1) => WordsAt.start (hs := #[.bool true, .bool true, .bool false, .bool false]) hp hx hb)
  have HP := Lib.hid hp8
  have HK := Lib.hid (And.intro h0 (h1))
  have HA := Lib.hid (fun w' (hl' : Laid w') => atoi_any ⟨x.toArray⟩ w' (by show x.toArray.size ≤ _; rw [List.size_toArray]; omega) hl')
  have HA : Hid (∀ w', Laid w' → Calls Tryd.prog 59 #[sv x] w' fun e w'' => ∃ er, e = .returned (.tuple #[.int .i64 (atoiV x), er]) ∧ Below w'.heap.size w' w'') := Lib.hid HA.out
  obtain ⟨NV, hNV⟩ : ∃ NV, atoiV x = NV := ⟨_, rfl⟩
  rw [hNV] at HA ⊢
  clear hof hl hx hp h0 l0 h1 l1 hNV
  go_enter Tryd.func46, Tryd.ntmps46
  go_wp2_with (first | (refine (HO.out _).mono ?_; rintro e w1 ⟨rfl, hb1⟩; have A := Lib.hid (HS.out _ hb1); clear hb1 c0; have hord := A.out.ord; have d0 := A.out.its (j := 0) rfl; have d1 := A.out.its (j := 1) rfl; have d2 := A.out.its (j := 2) rfl; have d3 := A.out.its (j := 3) rfl; have c0 := A.out.cell (j := 0) rfl; have f0 := A.out.free 0; have c1 := A.out.cell (j := 1) rfl; have f1 := A.out.free 1; have c2 := A.out.cell (j := 2) rfl; have f2 := A.out.free 2; have c3 := A.out.cell (j := 3) rfl; have f3 := A.out.free 3; have c4 := A.out.cell (j := 4) rfl; have f4 := A.out.free 4; have c5 := A.out.cell (j := 5) rfl; have f5 := A.out.free 5; have k0 := A.out.old hb HK.out.1; have k1 := A.out.old hb HK.out.2) | (refine (HA.out _ (laid_words HL.out HP.out A.out)).mono ?_; rintro e v1 ⟨er, rfl, hb2⟩; have B0 := Lib.hid (A.out.call hb2); clear hb2; clear d0 d1 d2 d3 c0 f0 c1 f1 c2 f2 c3 f3 c4 f4 c5 f5 k0 k1; have d0 := B0.out.its (j := 0) rfl; have d1 := B0.out.its (j := 1) rfl; have d2 := B0.out.its (j := 2) rfl; have d3 := B0.out.its (j := 3) rfl; have c0 := B0.out.cell (j := 0) rfl; have f0 := B0.out.free 0; have c1 := B0.out.cell (j := 1) rfl; have f1 := B0.out.free 1; have c2 := B0.out.cell (j := 2) rfl; have f2 := B0.out.free 2; have c3 := B0.out.cell (j := 3) rfl; have f3 := B0.out.free 3; have c4 := B0.out.cell (j := 4) rfl; have f4 := B0.out.free 4; have c5 := B0.out.cell (j := 5) rfl; have f5 := B0.out.free 5; have k0 := B0.out.old hb HK.out.1; have k1 := B0.out.old hb HK.out.2))
  go_end0
  exact ⟨rfl, ((B0.out.set 1 (.int .i64 NV)).set 2 (.bool (y == [100, 111, 110, 101]))).act, ((B0.out.set 1 (.int .i64 NV)).set 2 (.bool (y == [100, 111, 110, 101]))).bel⟩
set_option maxRecDepth 100000 in
set_option maxHeartbeats 4000000 in
theorem words_f0 (k : Int) (p b o : Nat) (w : World) (hof : hasC k = #[.bool true, .bool false, .bool false, .bool true]) (hb : b < p) (hp8 : 8 ≤ p) (hp : w.heap.size = p + 1)
    (hx : w.heap[p]? = some (.cells #[.int .i64 k, .int .i64 0, .bool false, .slice none 0 0, .string .empty, .int .u32 0] 30 (0, 0))) (hl : Laid w) :
    Calls Tryd.prog 46 #[.pointer (some ⟨p, 0, none⟩), .slice (some ⟨b, o, none⟩) 0 0] w fun e w' => e = .returned (.tuple #[]) ∧ w'.heap[p]? = some (.cells #[.int .i64 k, .int .i64 0, .bool false, .slice none 0 0, .string .empty, .int .u32 0] 30 (0, 0)) ∧ Below p w w' := by
  have HL := Lib.hid hl
  have HO := Lib.hid (of_any k)
  rw [hof] at HO
  have c0 : w.cell? ⟨p, 0, none⟩ = some (.int .i64 k) := cell_of_row _ _ 0 _ _ _ hx
  have HS := Lib.hid (fun (w1 : World) (hb : Below w.heap.size w w1) => WordsAt.start (hs := #[.bool true, .bool false, .bool false, .bool true]) hp hx hb)
  have HP := Lib.hid hp8
  clear hof hl hx hp
  go_enter Tryd.func46, Tryd.ntmps46
  go_wp2_with (first | (refine (HO.out _).mono ?_; rintro e w1 ⟨rfl, hb1⟩; have A := Lib.hid (HS.out _ hb1); clear hb1 c0; have hord := A.out.ord; have d0 := A.out.its (j := 0) rfl; have d1 := A.out.its (j := 1) rfl; have d2 := A.out.its (j := 2) rfl; have d3 := A.out.its (j := 3) rfl; have c0 := A.out.cell (j := 0) rfl; have f0 := A.out.free 0; have c1 := A.out.cell (j := 1) rfl; have f1 := A.out.free 1; have c2 := A.out.cell (j := 2) rfl; have f2 := A.out.free 2; have c3 := A.out.cell (j := 3) rfl; have f3 := A.out.free 3; have c4 := A.out.cell (j := 4) rfl; have f4 := A.out.free 4; have c5 := A.out.cell (j := 5) rfl; have f5 := A.out.free 5))
  go_end0
  exact ⟨rfl, A.out.act, A.out.bel⟩
set_option maxRecDepth 100000 in
set_option maxHeartbeats 4000000 in
theorem words_f1 (k : Int) (p b o : Nat) (x : List UInt8) (w : World) (hof : hasC k = #[.bool true, .bool false, .bool false, .bool true]) (hb : b < p) (hp8 : 8 ≤ p) (hp : w.heap.size = p + 1)
    (hx : w.heap[p]? = some (.cells #[.int .i64 k, .int .i64 0, .bool false, .slice none 0 0, .string .empty, .int .u32 0] 30 (0, 0))) (h0 : w.cell? ⟨b, o, none⟩ = some (sv x)) (l0 : x.length ≤ 1000000) (hl : Laid w) :
    Calls Tryd.prog 46 #[.pointer (some ⟨p, 0, none⟩), .slice (some ⟨b, o, none⟩) 1 1] w fun e w' => e = .returned (.tuple #[]) ∧ w'.heap[p]? = some (.cells #[.int .i64 k, .int .i64 0, .bool false, .slice none 0 0, sv x, .int .u32 0] 30 (0, 0)) ∧ Below p w w' := by
  have HL := Lib.hid hl
  have HO := Lib.hid (of_any k)
  rw [hof] at HO
  have c0 : w.cell? ⟨p, 0, none⟩ = some (.int .i64 k) := cell_of_row _ _ 0 _ _ _ hx
  have HS := Lib.hid (fun (w1 : World) (hb : Below w.heap.size w w1) => WordsAt.start (hs := #[.bool true, .bool false, .bool false, .bool true]) hp hx hb)
  have HP := Lib.hid hp8
  have HK := Lib.hid (h0)
  clear hof hl hx hp h0 l0
  go_enter Tryd.func46, Tryd.ntmps46
  go_wp2_with ((refine (HO.out _).mono ?_; rintro e w1 ⟨rfl, hb1⟩; have A := Lib.hid (HS.out _ hb1); clear hb1 c0; have hord := A.out.ord; have d0 := A.out.its (j := 0) rfl; have d1 := A.out.its (j := 1) rfl; have d2 := A.out.its (j := 2) rfl; have d3 := A.out.its (j := 3) rfl; have c0 := A.out.cell (j := 0) rfl; have f0 := A.out.free 0; have c1 := A.out.cell (j := 1) rfl; have f1 := A.out.free 1; have c2 := A.out.cell (j := 2) rfl; have f2 := A.out.free 2; have c3 := A.out.cell (j := 3) rfl; have f3 := A.out.free 3; have c4 := A.out.cell (j := 4) rfl; have f4 := A.out.free 4; have c5 := A.out.cell (j := 5) rfl; have f5 := A.out.free 5; have k0 := A.out.old hb HK.out))
  have A1 := A.out
  obtain ⟨H, hH⟩ : ∃ H, w1.heap.size = H := ⟨_, rfl⟩
  clear d0 d1 d2 d3 c0 f0 c1 f1 c2 f2 c3 f3 c4 f4 c5 f5 k0
  rw [hH] at A1 hord ⊢
  generalize w1.alloc (.cells #[.bool true, .bool false, .bool false, .bool true] 47) = W at *
  clear A hH HS
  have A := Lib.hid A1
  have d0 := A.out.its (j := 0) rfl; have d1 := A.out.its (j := 1) rfl; have d2 := A.out.its (j := 2) rfl; have d3 := A.out.its (j := 3) rfl; have c0 := A.out.cell (j := 0) rfl; have f0 := A.out.free 0; have c1 := A.out.cell (j := 1) rfl; have f1 := A.out.free 1; have c2 := A.out.cell (j := 2) rfl; have f2 := A.out.free 2; have c3 := A.out.cell (j := 3) rfl; have f3 := A.out.free 3; have c4 := A.out.cell (j := 4) rfl; have f4 := A.out.free 4; have c5 := A.out.cell (j := 5) rfl; have f5 := A.out.free 5; have k0 := A.out.old hb HK.out
  clear A1
  go_region
  go_wp2_with (fail)
  go_end0
  exact ⟨rfl, (A.out.set 4 (sv x)).drew.act, (A.out.set 4 (sv x)).drew.bel⟩
set_option maxRecDepth 100000 in
set_option maxHeartbeats 4000000 in
theorem words_f2 (k : Int) (p b o : Nat) (x y : List UInt8) (w : World) (hof : hasC k = #[.bool true, .bool false, .bool false, .bool true]) (hb : b < p) (hp8 : 8 ≤ p) (hp : w.heap.size = p + 1)
    (hx : w.heap[p]? = some (.cells #[.int .i64 k, .int .i64 0, .bool false, .slice none 0 0, .string .empty, .int .u32 0] 30 (0, 0))) (h0 : w.cell? ⟨b, o, none⟩ = some (sv x)) (l0 : x.length ≤ 1000000) (h1 : w.cell? ⟨b, o + 1, none⟩ = some (sv y)) (l1 : y.length ≤ 1000000) (hl : Laid w) :
    Calls Tryd.prog 46 #[.pointer (some ⟨p, 0, none⟩), .slice (some ⟨b, o, none⟩) 2 2] w fun e w' => e = .returned (.tuple #[]) ∧ w'.heap[p]? = some (.cells #[.int .i64 k, .int .i64 (atoiV y), .bool false, .slice none 0 0, sv x, .int .u32 0] 30 (0, 0)) ∧ Below p w w' := by
  have HL := Lib.hid hl
  have HO := Lib.hid (of_any k)
  rw [hof] at HO
  have c0 : w.cell? ⟨p, 0, none⟩ = some (.int .i64 k) := cell_of_row _ _ 0 _ _ _ hx
  have HS := Lib.hid (fun (w1 : World) (hb : Below w.heap.size w w1) => WordsAt.start (hs := #[.bool true, .bool false, .bool false, .bool true]) hp hx hb)
  have HP := Lib.hid hp8
  have HK := Lib.hid (And.intro h0 (h1))
  have HA := Lib.hid (fun w' (hl' : Laid w') => atoi_any ⟨y.toArray⟩ w' (by show y.toArray.size ≤ _; rw [List.size_toArray]; omega) hl')
  have HA : Hid (∀ w', Laid w' → Calls Tryd.prog 59 #[sv y] w' fun e w'' => ∃ er, e = .returned (.tuple #[.int .i64 (atoiV y), er]) ∧ Below w'.heap.size w' w'') := Lib.hid HA.out
  obtain ⟨NV, hNV⟩ : ∃ NV, atoiV y = NV := ⟨_, rfl⟩
  rw [hNV] at HA ⊢
  clear hof hl hx hp h0 l0 h1 l1 hNV
  go_enter Tryd.func46, Tryd.ntmps46
  go_wp2_with ((refine (HO.out _).mono ?_; rintro e w1 ⟨rfl, hb1⟩; have A := Lib.hid (HS.out _ hb1); clear hb1 c0; have hord := A.out.ord; have d0 := A.out.its (j := 0) rfl; have d1 := A.out.its (j := 1) rfl; have d2 := A.out.its (j := 2) rfl; have d3 := A.out.its (j := 3) rfl; have c0 := A.out.cell (j := 0) rfl; have f0 := A.out.free 0; have c1 := A.out.cell (j := 1) rfl; have f1 := A.out.free 1; have c2 := A.out.cell (j := 2) rfl; have f2 := A.out.free 2; have c3 := A.out.cell (j := 3) rfl; have f3 := A.out.free 3; have c4 := A.out.cell (j := 4) rfl; have f4 := A.out.free 4; have c5 := A.out.cell (j := 5) rfl; have f5 := A.out.free 5; have k0 := A.out.old hb HK.out.1; have k1 := A.out.old hb HK.out.2))
  have A1 := A.out
  obtain ⟨H, hH⟩ : ∃ H, w1.heap.size = H := ⟨_, rfl⟩
  clear d0 d1 d2 d3 c0 f0 c1 f1 c2 f2 c3 f3 c4 f4 c5 f5 k0 k1
  rw [hH] at A1 hord ⊢
  generalize w1.alloc (.cells #[.bool true, .bool false, .bool false, .bool true] 47) = W at *
  clear A hH HS
  have A := Lib.hid A1
  have d0 := A.out.its (j := 0) rfl; have d1 := A.out.its (j := 1) rfl; have d2 := A.out.its (j := 2) rfl; have d3 := A.out.its (j := 3) rfl; have c0 := A.out.cell (j := 0) rfl; have f0 := A.out.free 0; have c1 := A.out.cell (j := 1) rfl; have f1 := A.out.free 1; have c2 := A.out.cell (j := 2) rfl; have f2 := A.out.free 2; have c3 := A.out.cell (j := 3) rfl; have f3 := A.out.free 3; have c4 := A.out.cell (j := 4) rfl; have f4 := A.out.free 4; have c5 := A.out.cell (j := 5) rfl; have f5 := A.out.free 5; have k0 := A.out.old hb HK.out.1; have k1 := A.out.old hb HK.out.2
  clear A1
  go_region
  go_wp2_with (first | (refine (HA.out _ (laid_words HL.out HP.out (A.out.set 4 (sv x)).drew)).mono ?_; rintro e v1 ⟨er, rfl, hb2⟩; have B0 := Lib.hid ((A.out.set 4 (sv x)).drew.call hb2); clear hb2; clear d0 d1 d2 d3 c0 f0 c1 f1 c2 f2 c3 f3 c4 f4 c5 f5 k0 k1; have d0 := B0.out.its (j := 0) rfl; have d1 := B0.out.its (j := 1) rfl; have d2 := B0.out.its (j := 2) rfl; have d3 := B0.out.its (j := 3) rfl; have c0 := B0.out.cell (j := 0) rfl; have f0 := B0.out.free 0; have c1 := B0.out.cell (j := 1) rfl; have f1 := B0.out.free 1; have c2 := B0.out.cell (j := 2) rfl; have f2 := B0.out.free 2; have c3 := B0.out.cell (j := 3) rfl; have f3 := B0.out.free 3; have c4 := B0.out.cell (j := 4) rfl; have f4 := B0.out.free 4; have c5 := B0.out.cell (j := 5) rfl; have f5 := B0.out.free 5; have k0 := B0.out.old hb HK.out.1; have k1 := B0.out.old hb HK.out.2))
  go_end0
  exact ⟨rfl, (B0.out.set 1 (.int .i64 NV)).act, (B0.out.set 1 (.int .i64 NV)).bel⟩
set_option maxRecDepth 100000 in
set_option maxHeartbeats 4000000 in
theorem words_f3 (k : Int) (p b o n : Nat) (x y z : List UInt8) (w : World) (hof : hasC k = #[.bool true, .bool false, .bool false, .bool true]) (hn : 3 ≤ n) (hm : n ≤ 1000000) (hb : b < p) (hp8 : 8 ≤ p) (hp : w.heap.size = p + 1)
    (hx : w.heap[p]? = some (.cells #[.int .i64 k, .int .i64 0, .bool false, .slice none 0 0, .string .empty, .int .u32 0] 30 (0, 0))) (h0 : w.cell? ⟨b, o, none⟩ = some (sv x)) (l0 : x.length ≤ 1000000) (h1 : w.cell? ⟨b, o + 1, none⟩ = some (sv y)) (l1 : y.length ≤ 1000000) (h2 : w.cell? ⟨b, o + 2, none⟩ = some (sv z)) (l2 : z.length ≤ 1000000) (hl : Laid w) :
    Calls Tryd.prog 46 #[.pointer (some ⟨p, 0, none⟩), .slice (some ⟨b, o, none⟩) n n] w fun e w' => e = .returned (.tuple #[]) ∧ w'.heap[p]? = some (.cells #[.int .i64 k, .int .i64 (atoiV y), .bool false, .slice none 0 0, sv x, .int .u32 (pu16 z : Int)] 30 (0, 0)) ∧ Below p w w' := by
  have HL := Lib.hid hl
  have HO := Lib.hid (of_any k)
  rw [hof] at HO
  have c0 : w.cell? ⟨p, 0, none⟩ = some (.int .i64 k) := cell_of_row _ _ 0 _ _ _ hx
  have HS := Lib.hid (fun (w1 : World) (hb : Below w.heap.size w w1) => WordsAt.start (hs := #[.bool true, .bool false, .bool false, .bool true]) hp hx hb)
  have HP := Lib.hid hp8
  have HK := Lib.hid (And.intro h0 (And.intro h1 (h2)))
  have HA := Lib.hid (fun w' (hl' : Laid w') => atoi_any ⟨y.toArray⟩ w' (by show y.toArray.size ≤ _; rw [List.size_toArray]; omega) hl')
  have HA : Hid (∀ w', Laid w' → Calls Tryd.prog 59 #[sv y] w' fun e w'' => ∃ er, e = .returned (.tuple #[.int .i64 (atoiV y), er]) ∧ Below w'.heap.size w' w'') := Lib.hid HA.out
  obtain ⟨NV, hNV⟩ : ∃ NV, atoiV y = NV := ⟨_, rfl⟩
  rw [hNV] at HA ⊢
  have HU := Lib.hid (fun w' (hl' : Laid w') => pu16_any ⟨z.toArray⟩ w' (by show z.toArray.size ≤ _; rw [List.size_toArray]; omega) hl')
  have HU : Hid (∀ w', Laid w' → Calls Tryd.prog 60 #[sv z, .int .i64 16, .int .i64 32] w' fun e w'' => ∃ er, e = .returned (.tuple #[.int .u64 (pu16 z : Int), er]) ∧ Below w'.heap.size w' w'') := Lib.hid HU.out
  have hmv := pu16_lt z
  obtain ⟨MV, hMV⟩ : ∃ MV, pu16 z = MV := ⟨_, rfl⟩
  rw [hMV] at HU hmv ⊢
  clear hof hl hx hp h0 l0 h1 l1 h2 l2 hNV hMV
  go_enter Tryd.func46, Tryd.ntmps46
  go_wp2_with ((refine (HO.out _).mono ?_; rintro e w1 ⟨rfl, hb1⟩; have A := Lib.hid (HS.out _ hb1); clear hb1 c0; have hord := A.out.ord; have d0 := A.out.its (j := 0) rfl; have d1 := A.out.its (j := 1) rfl; have d2 := A.out.its (j := 2) rfl; have d3 := A.out.its (j := 3) rfl; have c0 := A.out.cell (j := 0) rfl; have f0 := A.out.free 0; have c1 := A.out.cell (j := 1) rfl; have f1 := A.out.free 1; have c2 := A.out.cell (j := 2) rfl; have f2 := A.out.free 2; have c3 := A.out.cell (j := 3) rfl; have f3 := A.out.free 3; have c4 := A.out.cell (j := 4) rfl; have f4 := A.out.free 4; have c5 := A.out.cell (j := 5) rfl; have f5 := A.out.free 5; have k0 := A.out.old hb HK.out.1; have k1 := A.out.old hb HK.out.2.1; have k2 := A.out.old hb HK.out.2.2))
  have A1 := A.out
  obtain ⟨H, hH⟩ : ∃ H, w1.heap.size = H := ⟨_, rfl⟩
  clear d0 d1 d2 d3 c0 f0 c1 f1 c2 f2 c3 f3 c4 f4 c5 f5 k0 k1 k2
  rw [hH] at A1 hord ⊢
  generalize w1.alloc (.cells #[.bool true, .bool false, .bool false, .bool true] 47) = W at *
  clear A hH HS
  have A := Lib.hid A1
  have d0 := A.out.its (j := 0) rfl; have d1 := A.out.its (j := 1) rfl; have d2 := A.out.its (j := 2) rfl; have d3 := A.out.its (j := 3) rfl; have c0 := A.out.cell (j := 0) rfl; have f0 := A.out.free 0; have c1 := A.out.cell (j := 1) rfl; have f1 := A.out.free 1; have c2 := A.out.cell (j := 2) rfl; have f2 := A.out.free 2; have c3 := A.out.cell (j := 3) rfl; have f3 := A.out.free 3; have c4 := A.out.cell (j := 4) rfl; have f4 := A.out.free 4; have c5 := A.out.cell (j := 5) rfl; have f5 := A.out.free 5; have k0 := A.out.old hb HK.out.1; have k1 := A.out.old hb HK.out.2.1; have k2 := A.out.old hb HK.out.2.2
  clear A1
  go_region
  go_wp2_with (first | (refine (HA.out _ (laid_words HL.out HP.out (A.out.set 4 (sv x)).drew)).mono ?_; rintro e v1 ⟨er, rfl, hb2⟩; have B0 := Lib.hid ((A.out.set 4 (sv x)).drew.call hb2); clear hb2; clear d0 d1 d2 d3 c0 f0 c1 f1 c2 f2 c3 f3 c4 f4 c5 f5 k0 k1 k2; have d0 := B0.out.its (j := 0) rfl; have d1 := B0.out.its (j := 1) rfl; have d2 := B0.out.its (j := 2) rfl; have d3 := B0.out.its (j := 3) rfl; have c0 := B0.out.cell (j := 0) rfl; have f0 := B0.out.free 0; have c1 := B0.out.cell (j := 1) rfl; have f1 := B0.out.free 1; have c2 := B0.out.cell (j := 2) rfl; have f2 := B0.out.free 2; have c3 := B0.out.cell (j := 3) rfl; have f3 := B0.out.free 3; have c4 := B0.out.cell (j := 4) rfl; have f4 := B0.out.free 4; have c5 := B0.out.cell (j := 5) rfl; have f5 := B0.out.free 5; have k0 := B0.out.old hb HK.out.1; have k1 := B0.out.old hb HK.out.2.1; have k2 := B0.out.old hb HK.out.2.2) | (refine (HU.out _ (laid_words HL.out HP.out (B0.out.set 1 (.int .i64 NV)))).mono ?_; rintro e v2 ⟨er, rfl, hb2⟩; have B1 := Lib.hid ((B0.out.set 1 (.int .i64 NV)).call hb2); clear hb2; clear d0 d1 d2 d3 c0 f0 c1 f1 c2 f2 c3 f3 c4 f4 c5 f5 k0 k1 k2; have d0 := B1.out.its (j := 0) rfl; have d1 := B1.out.its (j := 1) rfl; have d2 := B1.out.its (j := 2) rfl; have d3 := B1.out.its (j := 3) rfl; have c0 := B1.out.cell (j := 0) rfl; have f0 := B1.out.free 0; have c1 := B1.out.cell (j := 1) rfl; have f1 := B1.out.free 1; have c2 := B1.out.cell (j := 2) rfl; have f2 := B1.out.free 2; have c3 := B1.out.cell (j := 3) rfl; have f3 := B1.out.free 3; have c4 := B1.out.cell (j := 4) rfl; have f4 := B1.out.free 4; have c5 := B1.out.cell (j := 5) rfl; have f5 := B1.out.free 5; have k0 := B1.out.old hb HK.out.1; have k1 := B1.out.old hb HK.out.2.1; have k2 := B1.out.old hb HK.out.2.2))
  go_end0
  exact ⟨rfl, (B1.out.set 5 (.int .u32 (MV : Int))).act, (B1.out.set 5 (.int .u32 (MV : Int))).bel⟩
end Go.Proofs.YtifdmgloheampaaDoor
namespace Go.Proofs.YtifdmgloheampaaDoor
open Go.RowKit DiskM ScriptM

section
variable {w0 w w' : World} {p H : Nat} {cs hs : Array Value} {B : Nat} {a : Option Addr} {n c : Nat} {bs : List UInt8}
/-- a row of bytes is no box -/
theorem WordsAt.apart (h : WordsAt w0 w p H cs hs) (ho : Own w B a n c bs) : (∀ x, a = some x → x.block ≠ p) ∧ (∀ x, a = some x → x.block ≠ H) := by
  rcases ho.form with ⟨rfl, _⟩ | ⟨g, cur, rfl, _, _, hh, _⟩
  · exact ⟨fun x hx => (by cases hx), fun x hx => (by cases hx)⟩
  · refine ⟨fun x hx e => ?_, fun x hx e => ?_⟩
    all_goals
      injection hx with hx
      subst hx
      have e : g = _ := e
      subst e
    · rw [h.act] at hh; injection hh with hh; injection hh with _ h2; exact absurd h2 (by decide)
    · rw [h.has] at hh; injection hh with hh; injection hh with _ h2; exact absurd h2 (by decide)
theorem WordsAt.grown (h : WordsAt w0 w p H cs hs) (ho : Own w B a n c bs) (hg : w.grownBy w' (a.map (·.block))) (hb : Below p w0 w') : WordsAt w0 w' p H cs hs := by
  obtain ⟨h1, h2⟩ := h.apart ho
  refine ⟨hb, (hg.block p (Array.getElem?_eq_some_iff.1 h.act).1 fun e => ?_).trans h.act, (hg.block H (Array.getElem?_eq_some_iff.1 h.has).1 fun e => ?_).trans h.has, h.ord⟩
  · cases a with
    | none => cases e
    | some x => exact h1 x rfl (by simpa using e.symm)
  · cases a with
    | none => cases e
    | some x => exact h2 x rfl (by simpa using e.symm)
end
theorem rd_new (w : World) (V : Nat) (h : V < 256) : Rd (w.alloc (.cells #[.int .u8 (V : Int)] 5)) (w.heap.size + 1) (some ⟨w.heap.size, 0, none⟩) [UInt8.ofNat V] := by
  refine .inr ⟨w.heap.size, 0, rfl, by omega, fun j x hx => ?_⟩
  cases j with
  | zero =>
    have hx : some (UInt8.ofNat V) = some x := hx
    injection hx with hx
    subst hx
    rw [cell_of_row _ _ _ _ _ _ (heap_alloc_new _ _)]
    have : (UInt8.ofNat V).toNat = V := by rw [UInt8.toNat_ofNat']; omega
    unfold bv
    rw [this]
    rfl
  | succ j => cases hx
theorem pu8_lt (l : List UInt8) : pu8 l < 256 := by
  unfold pu8
  cases h : Lib.parseUintB 8 l with
  | ok v =>
    simp only
    have key : ∀ (l : List UInt8) (acc : Nat), acc ≤ 255 → ∀ v, Lib.parseUintM 255 acc l = .ok v → v ≤ 255 := by
      intro l
      induction l with
      | nil => intro acc ha v hv; simp only [Lib.parseUintM] at hv; injection hv with hv; omega
      | cons c r ih =>
        intro acc ha v hv
        simp only [Lib.parseUintM] at hv
        split at hv
        · split at hv
          · cases hv
          · split at hv
            · cases hv
            · exact ih _ (by omega) v hv
        · cases hv
    unfold Lib.parseUintB at h
    split at h
    · cases h
    · have := key l 0 (by omega) v h
      omega
  | range => simp
  | _ => simp
theorem keep_snoc (xs : List (List UInt8)) (j : Nat) (x : List UInt8) (h : xs[j]? = some x) : ((xs.take (j + 1)).map fun w => UInt8.ofNat (pu8 w)) = ((xs.take j).map fun w => UInt8.ofNat (pu8 w)) ++ [UInt8.ofNat (pu8 x)] := by
  rw [List.take_add_one, h]; simp
set_option maxRecDepth 100000 in
set_option maxHeartbeats 4000000 in
theorem words_6 (p b o n : Nat) (xs : List (List UInt8)) (w : World) (hn : xs.length = n) (hm : n ≤ 1000000) (hb : b < p) (hp8 : 8 ≤ p) (hp : w.heap.size = p + 1)
    (hx : w.heap[p]? = some (.cells #[.int .i64 6, .int .i64 0, .bool false, .slice none 0 0, .string .empty, .int .u32 0] 30 (0, 0)))
    (htx : ∀ (j : Nat) x, xs[j]? = some x → w.cell? ⟨b, o + j, none⟩ = some (sv x) ∧ x.length ≤ 1000000) (hl : Laid w) :
    Calls Tryd.prog 46 #[.pointer (some ⟨p, 0, none⟩), .slice (some ⟨b, o, none⟩) n n] w fun e w' => e = .returned (.tuple #[]) ∧ ∃ ka kc, w'.heap[p]? = some (.cells #[.int .i64 6, .int .i64 0, .bool false, .slice ka n kc, .string .empty, .int .u32 0] 30 (0, 0)) ∧ Own w' p ka n kc (xs.map fun w => UInt8.ofNat (pu8 w)) ∧ Below p w w' := by
  have HL := Lib.hid hl
  have HO : Hid (∀ w, Calls Tryd.prog 20 #[.int .i64 6] w fun e w' => e = .returned (.tuple #[.agg #[.bool false, .bool false, .bool true, .bool false], .bool true]) ∧ Below w.heap.size w w') := Lib.hid (of_any 6)
  have c0 : w.cell? ⟨p, 0, none⟩ = some (.int .i64 6) := cell_of_row _ _ 0 _ _ _ hx
  have HS := Lib.hid (fun (w1 : World) (hb : Below w.heap.size w w1) => WordsAt.start (hs := #[.bool false, .bool false, .bool true, .bool false]) hp hx hb)
  have HP := Lib.hid hp8
  have HT := Lib.hid (And.intro htx hn)
  clear hl hx hp htx hn
  go_enter Tryd.func46, Tryd.ntmps46
  go_wp2_with (refine (HO.out _).mono ?_; rintro e w1 ⟨rfl, hb1⟩; have A := Lib.hid (HS.out _ hb1); clear hb1 c0; have hord := A.out.ord; have d0 := A.out.its (j := 0) rfl; have d1 := A.out.its (j := 1) rfl; have d2 := A.out.its (j := 2) rfl; have d3 := A.out.its (j := 3) rfl)
  clear d0 d1 d2 d3
  have hH : ∃ H, w1.heap.size = H := ⟨_, rfl⟩
  obtain ⟨H, hH⟩ := hH
  rw [hH] at A hord
  go_loopw [94] (fun iv wr => ∃ (j : Nat) (ka : Option Addr) (kc : Nat), iv = .int .i64 (j : Int) ∧ j ≤ n ∧ WordsAt w wr p H #[.int .i64 6, .int .i64 0, .bool false, .slice ka j kc, .string .empty, .int .u32 0] #[.bool false, .bool false, .bool true, .bool false] ∧ Own wr p ka j kc ((xs.take j).map fun w => UInt8.ofNat (pu8 w))) (fun iv _ => n - (intOf iv).toNat)
  case atStart => exact ⟨0, none, 0, rfl, Nat.zero_le _, A.out, Own.nil_ _ _⟩
  case round =>
    clear A hH
    obtain ⟨j, ka, kc, rfl, hj, hA, hown⟩ := hrel
    by_cases hlt : j < n
    · obtain ⟨x, hx⟩ : ∃ x, xs[j]? = some x := ⟨_, List.getElem?_eq_getElem (by rw [HT.out.2]; exact hlt)⟩
      have hk := hA.old hb (HT.out.1 j x hx).1
      have hlx := (HT.out.1 j x hx).2
      have HU : Hid (∀ w', Laid w' → Calls Tryd.prog 60 #[sv x, .int .i64 10, .int .i64 8] w' fun e w'' => ∃ er, e = .returned (.tuple #[.int .u64 (pu8 x : Nat), er]) ∧ Below w'.heap.size w' w'') := Lib.hid (fun w' hl' => pu8_any ⟨x.toArray⟩ w' (by show x.toArray.size ≤ _; rw [List.size_toArray]; omega) hl')
      have hsn := keep_snoc xs j x hx
      have h256 := pu8_lt x
      obtain ⟨V, hV⟩ : ∃ V, pu8 x = V := ⟨_, rfl⟩
      rw [hV] at HU hsn h256
      have HSN := Lib.hid hsn
      have HA := Lib.hid (And.intro hA hown)
      clear hx hlx hsn hV hA hown
      go_wp2_with (first | (refine (HU.out _ (laid_words HL.out HP.out HA.out.1)).mono ?_; rintro e w2 ⟨er, rfl, hb2⟩; have HB := Lib.hid (And.intro (HA.out.1.call hb2) (HA.out.2.call hb2)); have c3 := HB.out.1.cell (j := 3) rfl; have f3 := HB.out.1.free 3; clear hb2 hk) | (at_builtin; refine wpList_append_b rfl (.tmp 107) (.tmp 110) rfl w _ p (HB.out.1.alloc _).bel (Nat.le_of_lt (Array.getElem?_eq_some_iff.1 (HB.out.1.alloc _).act).1) ka j kc _ rfl (HB.out.2.alloc _) (w2.heap.size + 1) (some ⟨w2.heap.size, 0, none⟩) 1 1 [UInt8.ofNat V] rfl (rd_new w2 V h256) rfl (j + 1) rfl (by omega) ?_; intro a3 c3' w3 ho3 hg3 hb3 _; have HD := Lib.hid (And.intro ((HB.out.1.alloc _).grown (HB.out.2.alloc _) hg3 hb3) ho3); clear c3 f3 ho3 hg3 hb3; have c3 := HD.out.1.cell (j := 3) rfl; have f3 := HD.out.1.free 3))
      go_roundw
      case rel =>
        refine ⟨j + 1, a3, c3', by go_num, by omega, HD.out.1.set 3 (.slice a3 (j + 1) c3'), ?_⟩
        rw [HSN.out]
        exact HD.out.2.far (HD.out.1.apart HD.out.2).1 _
      case measure => simp [intOf]; omega
    · obtain rfl : j = n := by omega
      rw [List.take_of_length_le (by rw [HT.out.2]; exact Nat.le_refl _)] at hown
      have HA := Lib.hid (And.intro hA hown)
      clear hA hown
      go_wp2_with fail
      go_end0
      exact ⟨rfl, ka, kc, HA.out.1.act, HA.out.2, HA.out.1.bel⟩
end Go.Proofs.YtifdmgloheampaaDoor
namespace Go.Proofs.YtifdmgloheampaaDoor
open Go.RowKit DiskM ScriptM

/-- what words leaves in the act's box -/
def Filled (v : ActV) (a : ScriptM.Act) (p : Nat) (w w' : World) : Prop :=
  w'.heap[p]? = some (.cells v.x.cells 30 (0, 0)) ∧ v.abs = a ∧ v.keep.length = v.x.kn ∧ v.x.kn ≤ 1000000 ∧ Rd w' w'.heap.size v.x.ka v.keep ∧ v.x.nm.size ≤ 1000000 ∧ v.x.mask < 4294967296 ∧ Below p w w' ∧ (v.keep = [] ∨ ∃ g o, v.x.ka = some ⟨g, o, none⟩ ∧ p < g)
theorem words_any (k : Int) (hk : 1 ≤ k ∧ k ≤ 8) (p b o n : Nat) (xs : List (List UInt8)) (w : World) (hn : xs.length = n) (hm : n ≤ 1000000) (hb : b < p) (hp8 : 8 ≤ p) (hp : w.heap.size = p + 1)
    (hx : w.heap[p]? = some (.cells #[.int .i64 k, .int .i64 0, .bool false, .slice none 0 0, .string .empty, .int .u32 0] 30 (0, 0)))
    (htx : ∀ (j : Nat) x, xs[j]? = some x → w.cell? ⟨b, o + j, none⟩ = some (sv x) ∧ x.length ≤ 1000000) (hl : Laid w) :
    Calls Tryd.prog 46 #[.pointer (some ⟨p, 0, none⟩), .slice (some ⟨b, o, none⟩) n n] w fun e w' => e = .returned (.tuple #[]) ∧ ∃ v, Filled v (wordsM k xs) p w w' := by
  have mk : ∀ (N : Int) (D : Bool) (nl : List UInt8) (M : Nat) (w' : World), nl.length ≤ 1000000 → M < 4294967296 → wordsM k xs = ⟨k, N, D, [], nl, M⟩ →
      w'.heap[p]? = some (.cells #[.int .i64 k, .int .i64 N, .bool D, .slice none 0 0, sv nl, .int .u32 (M : Int)] 30 (0, 0)) ∧ Below p w w' → ∃ v, Filled v (wordsM k xs) p w w' := by
    intro N D nl M w' hnl hM he ⟨h1, h2⟩
    refine ⟨⟨⟨k, N, D, none, 0, 0, ⟨nl.toArray⟩, M⟩, []⟩, h1, he.symm, rfl, (by show (0 : Nat) ≤ _; omega), .inl rfl, ?_, hM, h2, .inl rfl⟩
    show nl.toArray.size ≤ _
    rw [List.size_toArray]; exact hnl
  have hks : k = 1 ∨ k = 2 ∨ k = 3 ∨ k = 4 ∨ k = 5 ∨ k = 6 ∨ k = 7 ∨ k = 8 := by omega
  have h0 : ∀ x, xs[0]? = some x → w.cell? ⟨b, o, none⟩ = some (sv x) ∧ x.length ≤ 1000000 := fun x h => htx 0 x h
  have numb : hasC k = #[.bool true, .bool false, .bool false, .bool false] → (∀ ys, wordsM k ys = ⟨k, (match ys with | [] => 0 | x :: _ => atoiV x), false, [], [], 0⟩) →
      Calls Tryd.prog 46 #[.pointer (some ⟨p, 0, none⟩), .slice (some ⟨b, o, none⟩) n n] w fun e w' => e = .returned (.tuple #[]) ∧ ∃ v, Filled v (wordsM k xs) p w w' := by
    intro hof hw
    match xs, hn, h0, mk, hw xs with
    | [], hn, _, mk, hw =>
      obtain rfl : n = 0 := hn.symm
      refine (words_n0 k p b o w hof hb hp8 hp hx hl).mono ?_
      rintro e w' ⟨rfl, h⟩
      exact ⟨rfl, mk 0 false [] 0 w' (by simp) (by decide) hw h⟩
    | [x], hn, h0, mk, hw =>
      obtain rfl : n = 1 := hn.symm
      refine (words_n1 k p b o x w hof hb hp8 hp hx (h0 x rfl).1 (h0 x rfl).2 hl).mono ?_
      rintro e w' ⟨rfl, h⟩
      exact ⟨rfl, mk _ false [] 0 w' (by simp) (by decide) hw h⟩
    | x :: y :: r, hn, h0, mk, hw =>
      simp only [List.length_cons] at hn
      refine (words_n2 k p b o n x w hof (by omega) hm hb hp8 hp hx (h0 x rfl).1 (h0 x rfl).2 hl).mono ?_
      rintro e w' ⟨rfl, h⟩
      exact ⟨rfl, mk _ false [] 0 w' (by simp) (by decide) hw h⟩
  rcases hks with rfl | rfl | rfl | rfl | rfl | rfl | rfl | rfl
  · exact numb rfl fun ys => rfl
  · exact numb rfl fun ys => rfl
  · exact numb rfl fun ys => rfl
  · refine (words_o 4 p b o n w rfl (Nat.zero_le _) hm hb hp8 hp hx hl).mono ?_
    rintro e w' ⟨rfl, h⟩
    exact ⟨rfl, mk 0 false [] 0 w' (by simp) (by decide) rfl h⟩
  · match xs, hn, htx, mk with
    | [], hn, _, mk =>
      obtain rfl : n = 0 := hn.symm
      refine (words_a0 5 p b o w rfl hb hp8 hp hx hl).mono ?_
      rintro e w' ⟨rfl, h⟩
      exact ⟨rfl, mk 0 false [] 0 w' (by simp) (by decide) rfl h⟩
    | [x], hn, htx, mk =>
      obtain rfl : n = 1 := hn.symm
      have h0 := htx 0 x rfl
      refine (words_a1 5 p b o x w rfl hb hp8 hp hx h0.1 h0.2 hl).mono ?_
      rintro e w' ⟨rfl, h⟩
      exact ⟨rfl, mk _ false [] 0 w' (by simp) (by decide) rfl h⟩
    | x :: y :: r, hn, htx, mk =>
      simp only [List.length_cons] at hn
      have h0 := htx 0 x rfl
      have h1 := htx 1 y rfl
      refine (words_a2 5 p b o n x y w rfl (by omega) hm hb hp8 hp hx h0.1 h0.2 h1.1 h1.2 hl).mono ?_
      rintro e w' ⟨rfl, h⟩
      exact ⟨rfl, mk _ (y == [100, 111, 110, 101]) [] 0 w' (by simp) (by decide) (by
        show (⟨5, atoiV x, decide (y = doneW), [], [], 0⟩ : ScriptM.Act) = _
        rw [show decide (y = doneW) = (y == [100, 111, 110, 101]) from (by rw [Bool.eq_iff_iff, decide_eq_true_iff]; simp [doneW])]) h⟩
  · refine (words_6 p b o n xs w hn hm hb hp8 hp hx htx hl).mono ?_
    rintro e w' ⟨rfl, ka, kc, h1, h2, h3⟩
    refine ⟨rfl, ⟨⟨6, 0, false, ka, n, kc, .empty, 0⟩, xs.map fun w => UInt8.ofNat (pu8 w)⟩, h1, ?_, by rw [List.length_map, hn], hm, h2.rd, (by show (0 : Nat) ≤ _; omega), (by show (0 : Nat) < _; omega), h3, ?_⟩
    · rfl
    · rcases h2.form with ⟨_, _, _, h⟩ | ⟨g, cur, h, hg, _, hh, _⟩
      · exact .inl h
      · refine .inr ⟨g, 0, h, ?_⟩
        rcases Nat.lt_or_ge p g with h4 | h4
        · exact h4
        · exfalso
          obtain rfl : g = p := by omega
          rw [h1] at hh; injection hh with hh; injection hh with _ h5; exact absurd h5 (by decide)
  · exact numb rfl fun ys => rfl
  · match xs, hn, htx, mk with
    | [], hn, _, mk =>
      obtain rfl : n = 0 := hn.symm
      refine (words_f0 8 p b o w rfl hb hp8 hp hx hl).mono ?_
      rintro e w' ⟨rfl, h⟩
      exact ⟨rfl, mk 0 false [] 0 w' (by simp) (by decide) rfl h⟩
    | [x], hn, htx, mk =>
      obtain rfl : n = 1 := hn.symm
      have h0 := htx 0 x rfl
      refine (words_f1 8 p b o x w rfl hb hp8 hp hx h0.1 h0.2 hl).mono ?_
      rintro e w' ⟨rfl, h⟩
      exact ⟨rfl, mk 0 false x 0 w' h0.2 (by decide) rfl h⟩
    | [x, y], hn, htx, mk =>
      obtain rfl : n = 2 := hn.symm
      have h0 := htx 0 x rfl
      have h1 := htx 1 y rfl
      refine (words_f2 8 p b o x y w rfl hb hp8 hp hx h0.1 h0.2 h1.1 h1.2 hl).mono ?_
      rintro e w' ⟨rfl, h⟩
      exact ⟨rfl, mk _ false x 0 w' h0.2 (by decide) rfl h⟩
    | x :: y :: z :: r, hn, htx, mk =>
      simp only [List.length_cons] at hn
      have h0 := htx 0 x rfl
      have h1 := htx 1 y rfl
      have h2 := htx 2 z rfl
      refine (words_f3 8 p b o n x y z w rfl (by omega) hm hb hp8 hp hx h0.1 h0.2 h1.1 h1.2 h2.1 h2.2 hl).mono ?_
      rintro e w' ⟨rfl, h⟩
      exact ⟨rfl, mk _ false x _ w' h0.2 (pu16_lt z) rfl h⟩
end Go.Proofs.YtifdmgloheampaaDoor
