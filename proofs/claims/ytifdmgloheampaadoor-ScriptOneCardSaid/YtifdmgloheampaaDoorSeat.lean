/- The deck of drawn numbers: how it lies in memory; Of, Next, N, Yes. Condition: few numbers have been drawn. -/
/- The deck's crash: an act with up to four bytes. Condition: few numbers have been drawn. -/
/- The deck's Act: a right act, or a flip without a mask. Condition: few numbers have been drawn. -/
/- The deck's Script: acts, each right or a flip without a mask. Condition: few numbers have been drawn. -/
/- What a drawn script's text is; the worlds behind a drawn script. Plain lemmas, no condition. -/
import Derived.Test.YtifdmgloheampaaDoorTurn
import Derived.BigQuiet
import Derived.Deep.RegionHeld3
import Derived.Test.YtifdmgloheampaaDoorOwn
import Derived.Deep.RegionLaw
import Derived.Deep.AppendLies
import Derived.Test.YtifdmgloheampaaDoorScriptI
import Derived.Test.YtifdmgloheampaaDoorActs
import Derived.Deep.CutBlock
import Derived.Deep.DeepCutAuto
import Derived.Test.YtifdmgloheampaaDoorScriptLines
namespace Go.Proofs.YtifdmgloheampaaDoor
open Go.RowKit

def uv (n : Nat) : Value := .int .u64 (n : Int)
/-- a slice that begins at a reads as these numbers, below block B -/
def RdU (w : World) (B : Nat) (a : Option Addr) (ls : List Nat) : Prop :=
  ls = [] ∨ ∃ b o, a = some ⟨b, o, none⟩ ∧ b < B ∧ ∀ (j : Nat) x, ls[j]? = some x → w.cell? ⟨b, o + j, none⟩ = some (uv x)
theorem RdU.keep {w w' : World} {B : Nat} {a : Option Addr} {ls : List Nat} (h : RdU w B a ls) (hk : ∀ p : Addr, p.block < B → w'.cell? p = w.cell? p) : RdU w' B a ls := by
  rcases h with rfl | ⟨b, o, rfl, hb, hc⟩
  · exact .inl rfl
  · exact .inr ⟨b, o, rfl, hb, fun j x hx => (hk _ hb).trans (hc j x hx)⟩
theorem RdU.more {w : World} {B B' : Nat} {a : Option Addr} {ls : List Nat} (h : RdU w B a ls) (hB : B ≤ B') : RdU w B' a ls := by
  rcases h with rfl | ⟨b, o, rfl, hb, hc⟩
  · exact .inl rfl
  · exact .inr ⟨b, o, rfl, by omega, hc⟩
/-- a deck at block b, of which i numbers have been drawn -/
def Deck (w : World) (b i : Nat) : Prop := ∃ a n c ls, w.heap[b]? = some (.cells #[.slice a n c, .int .i64 (i : Int)] 51 (0, 0)) ∧ ls.length = n ∧ n ≤ 9223372036854775807 ∧ RdU w b a ls ∧ ∀ x ∈ ls, x < 18446744073709551616
section
variable {w w' : World} {b i : Nat} {fp : Nat → Prop}
theorem Deck.lt (h : Deck w b i) : b < w.heap.size := by
  obtain ⟨a, n, c, ls, hh, _⟩ := h
  exact (Array.getElem?_eq_some_iff.1 hh).1
theorem Deck.turn (h : Deck w b i) (ht : Turn fp w w') (hn : ∀ k, k ≤ b → ¬ fp k) : Deck w' b i := by
  have hb := h.lt
  obtain ⟨a, n, c, ls, hh, h1, h2, h3, h4⟩ := h
  exact ⟨a, n, c, ls, (ht.block b hb (hn b (Nat.le_refl _))).trans hh, h1, h2, h3.keep fun p hp => ht.cell (by omega) (hn _ (by omega)), h4⟩
theorem Deck.call (h : Deck w b i) (hb : Below w.heap.size w w') : Deck w' b i := h.turn (Turn.of_below hb fun _ => False) fun _ _ h => h
end
set_option maxRecDepth 100000 in
theorem decknext_any (b i : Nat) (w : World) (h : Deck w b i) (hi : i ≤ 1000000) :
    Calls Tryd.prog 30 #[.pointer (some ⟨b, 0, none⟩)] w fun e w' => (∃ x : Nat, x < 18446744073709551616 ∧ e = .returned (.int .u64 (x : Int))) ∧ Deck w' b (i + 1) ∧ Turn (· = b) w w' := by
  obtain ⟨a, n, c, ls, hh, hln, hn, hrd, hx⟩ := h
  have k0 : w.cell? ⟨b, 0, none⟩ = some (.slice a n c) := by rw [cell_of_row _ _ _ _ _ _ hh]; rfl
  have k1 : w.cell? ⟨b, 1, none⟩ = some (.int .i64 (i : Int)) := by rw [cell_of_row _ _ _ _ _ _ hh]; rfl
  have f1 : w.frozen? ⟨b, 1, none⟩ = false := frozen_of_row _ _ _ _ _ hh
  have hfin : ∀ V : World, V.heap = w.heap → V.os = w.os → V.tape = w.tape → V.output = w.output → Deck (V.setCell ⟨b, 1, none⟩ (.int .i64 ((i : Int) + 1))) b (i + 1) ∧ Turn (· = b) w (V.setCell ⟨b, 1, none⟩ (.int .i64 ((i : Int) + 1))) := by
    intro V h1 h2 h3 h4
    have hV : V.heap[b]? = some (.cells #[.slice a n c, .int .i64 (i : Int)] 51 (0, 0)) := by rw [h1]; exact hh
    refine ⟨⟨a, n, c, ls, ?_, hln, hn, hrd.keep fun p hp => ?_, hx⟩, ?_⟩
    · rw [heap_setCell_same _ _ _ _ _ _ hV]; rfl
    · rw [World.cell?_setCell_other _ _ _ _ (fun e => by subst e; exact Nat.lt_irrefl _ hp)]
      exact World.cell?_of_block (by rw [h1])
    · have ht := Turn.setCell (fun k => k = b) V (p := ⟨b, 1, none⟩) rfl (.int .i64 ((i : Int) + 1))
      exact ⟨ht.os.trans h2, ht.tape.trans h3, ht.output.trans h4, by rw [← h1]; exact ht.size, fun k hk hn => by rw [← h1]; exact ht.block k (by rw [h1]; exact hk) hn⟩
  have HF := Lib.hid hfin
  have HR := Lib.hid (And.intro hrd hx)
  clear hfin hh hrd hx
  by_cases hlt : i < n
  · have hlt' : (i : Int) < (n : Int) := by omega
    obtain ⟨x, hxx⟩ : ∃ x, ls[i]? = some x := ⟨_, List.getElem?_eq_getElem (by omega)⟩
    obtain ⟨y, o, rfl, hy, hc⟩ : ∃ y o, a = some ⟨y, o, none⟩ ∧ y < b ∧ w.cell? ⟨y, o + i, none⟩ = some (.int .u64 (x : Int)) := by
      rcases HR.out.1 with rfl | ⟨y, o, e, hy, hc⟩
      · simp at hxx
      · exact ⟨y, o, e, hy, hc i x hxx⟩
    have hx64 := HR.out.2 x (List.mem_of_getElem? hxx)
    clear hxx
    go_enter Tryd.func30, Tryd.ntmps30
    go_wp2_with fail
    go_quiet (fail)
    go_wp2_with fail
    go_quiet (fail)
    go_wp2_with fail
    go_ret
    exact ⟨⟨x, hx64, rfl⟩, HF.out _ rfl rfl rfl rfl⟩
  · have hlt' : ¬ ((i : Int) < (n : Int)) := by omega
    go_enter Tryd.func30, Tryd.ntmps30
    go_wp2_with fail
    go_quiet (fail)
    go_wp2_with fail
    go_ret
    exact ⟨⟨0, by omega, rfl⟩, HF.out _ rfl rfl rfl rfl⟩
/-- a number of the deck below n -/
def Drawn (b i : Nat) (n : Nat) (w : World) (e : Ending) (w' : World) : Prop := (∃ x : Nat, x < n ∧ e = .returned (.int .i64 (x : Int))) ∧ Deck w' b (i + 1) ∧ Turn (· = b) w w'
set_option maxRecDepth 100000 in
theorem n_any (b i n : Nat) (w : World) (h : Deck w b i) (hi : i ≤ 1000000) (h0 : 0 < n) (hn : n ≤ 1000000) :
    Calls Tryd.prog 24 #[.pointer (some ⟨b, 0, none⟩), .int .i64 (n : Int)] w (Drawn b i n w) := by
  have hc := decknext_any b i w h hi
  have HC := Lib.hid hc
  clear hc h
  go_enter Tryd.func24, Tryd.ntmps24
  go_wp2_with (refine HC.out.mono ?_; rintro e w1 ⟨⟨x, hx, rfl⟩, hd, ht⟩; (have HD := Lib.hid (And.intro hd ht)); clear hd ht)
  go_ret
  have hm : (x : Int) % (n : Int) = ((x % n : Nat) : Int) := by norm_cast
  have hlt : x % n < n := Nat.mod_lt _ h0
  refine ⟨⟨x % n, hlt, ?_⟩, HD.out⟩
  show Ending.returned (.int .i64 (wrap64 ((x : Int) % (n : Int)))) = _
  rw [hm]
  congr 2
  unfold wrap64; omega
set_option maxRecDepth 100000 in
theorem yes_any (b i n : Nat) (w : World) (h : Deck w b i) (hi : i ≤ 1000000) (h0 : 0 < n) (hn : n ≤ 1000000) :
    Calls Tryd.prog 23 #[.pointer (some ⟨b, 0, none⟩), .int .i64 (n : Int)] w fun e w' => (∃ r, e = .returned (.bool r)) ∧ Deck w' b (i + 1) ∧ Turn (· = b) w w' := by
  have hc := n_any b i n w h hi h0 hn
  have HC := Lib.hid hc
  clear hc h
  go_enter Tryd.func23, Tryd.ntmps23
  go_wp2_with (refine HC.out.mono ?_; rintro e w1 ⟨⟨x, hx, rfl⟩, hd, ht⟩; (have HD := Lib.hid (And.intro hd ht)); clear hd ht)
  go_ret
  exact ⟨⟨_, rfl⟩, HD.out⟩
theorem deckof_any (a : Option Addr) (n c : Nat) (ls : List Nat) (w : World) (hl : ls.length = n) (hn : n ≤ 9223372036854775807) (h : RdU w w.heap.size a ls) (hx : ∀ x ∈ ls, x < 18446744073709551616) :
    Calls Tryd.prog 12 #[.slice a n c] w fun e w' => e = .returned (.pointer (some ⟨w.heap.size, 0, none⟩)) ∧ Deck w' w.heap.size 0 ∧ Below w.heap.size w w' := by
  have H := Lib.hid h
  clear h
  go_enter Tryd.func12, Tryd.ntmps12
  go_wp2_with fail
  go_ret
  exact ⟨rfl, ⟨a, n, c, ls, heap_alloc_new _ _, hl, hn, H.out.keep fun p hp => World.cell?_alloc_lt _ _ p hp, hx⟩, (Below.refl _ _).alloc (Nat.le_refl _) _⟩
end Go.Proofs.YtifdmgloheampaaDoor
namespace Go.Proofs.YtifdmgloheampaaDoor
open Go.RowKit

/-- a crash's cells -/
abbrev crashCells (ka : Option Addr) (kn kc : Nat) : Array Value := #[.int .i64 6, .int .i64 0, .bool false, .slice ka kn kc, .string ⟨#[]⟩, .int .u32 0]
/-- a call of a Go function, as one step of a region that draws -/
theorem step_call {P : Program} {ops : Array Oper} {o : Oper} {a : Act} {w : World} {K : Act → World → Prop} {Q : Exit → Act → World → Prop} {E : Prop} (hgd : o.guard = none) (f : FuncId) (args : Array Value)
    (hrun : (execOp a.eval o).run P w = .ok (.enter f args) w) (h : Calls P f args w fun e w' => ∃ v, e = .returned v ∧ K (a.put o.dst v) w') : if Region.wanted o (yielded ops a.tmps) = true then Oper.wp P o a w K Q else E := by
  rw [if_pos (by simp [Region.wanted, hgd])]
  unfold Oper.wp
  rw [hrun, Oper.upon_enter]
  exact h.mono (by rintro e w' ⟨v, rfl, hk⟩; exact hk)
theorem u8_of (x : Nat) : ∃ c : UInt8, IntKind.u8.wrap (x : Int) = (c.toNat : Int) := by
  refine ⟨UInt8.ofNat x, ?_⟩
  rw [UInt8.toNat_ofNat']
  simp only [IntKind.wrap, IntKind.signed, IntKind.bits]
  simp
theorem Turn.newSet {fp : Nat → Prop} {w w' : World} (h : Turn fp w w') {p : Addr} (hp : w.heap.size ≤ p.block) (v : Value) : Turn fp w (w'.setCell p v) :=
  ⟨h.os, h.tape, h.output, by rw [World.size_setCell]; exact h.size, fun k hk hn => (Below.heap_setCell _ _ _ _ (by omega)).trans (h.block k hk hn)⟩
theorem Deck.far {w : World} {b i : Nat} (h : Deck w b i) {p : Addr} (hp : b < p.block) (v : Value) : Deck (w.setCell p v) b i := h.turn (Turn.setCell (fun k => k = p.block) w rfl v) fun k hk e => by omega
/-- six stores into a block of six cells -/
def sixSet (w : World) (B : Nat) (v0 v1 v2 v3 v4 v5 : Value) : World := (((((w.setCell ⟨B, 0, none⟩ v0).setCell ⟨B, 1, none⟩ v1).setCell ⟨B, 2, none⟩ v2).setCell ⟨B, 3, none⟩ v3).setCell ⟨B, 4, none⟩ v4).setCell ⟨B, 5, none⟩ v5
section
variable {w : World} {B : Nat} {t : TypeId} {c0 c1 c2 c3 c4 c5 : Value} (v0 v1 v2 v3 v4 v5 : Value)
theorem six_row (h : w.heap[B]? = some (.cells #[c0, c1, c2, c3, c4, c5] t (0, 0))) : (sixSet w B v0 v1 v2 v3 v4 v5).heap[B]? = some (.cells #[v0, v1, v2, v3, v4, v5] t (0, 0)) := by
  have e0 := heap_setCell_same w B 0 _ _ v0 h
  have e1 := heap_setCell_same _ B 1 _ _ v1 e0
  have e2 := heap_setCell_same _ B 2 _ _ v2 e1
  have e3 := heap_setCell_same _ B 3 _ _ v3 e2
  have e4 := heap_setCell_same _ B 4 _ _ v4 e3
  exact (heap_setCell_same _ B 5 _ _ v5 e4).trans rfl
theorem six_turn (w : World) (B : Nat) : Turn (fun k => k = B) w (sixSet w B v0 v1 v2 v3 v4 v5) := by
  unfold sixSet
  refine Turn.trans0 (Turn.trans0 (Turn.trans0 (Turn.trans0 (Turn.trans0 (Turn.setCell (fun k => k = B) _ (p := ⟨B, 0, none⟩) rfl _) (Turn.setCell (fun k => k = B) _ (p := ⟨B, 1, none⟩) rfl _)) (Turn.setCell (fun k => k = B) _ (p := ⟨B, 2, none⟩) rfl _)) (Turn.setCell (fun k => k = B) _ (p := ⟨B, 3, none⟩) rfl _)) (Turn.setCell (fun k => k = B) _ (p := ⟨B, 4, none⟩) rfl _)) (Turn.setCell (fun k => k = B) _ (p := ⟨B, 5, none⟩) rfl _)
end
theorem row_cell {w : World} {B i : Nat} {cs : Array Value} {t : TypeId} {u : Value} (h : w.heap[B]? = some (.cells cs t (0, 0))) (hu : cs[i]? = some u) : w.cell? ⟨B, i, none⟩ = some u := by rw [cell_of_row _ _ _ _ _ _ h]; exact hu
set_option maxRecDepth 100000 in
theorem deckcrash_any (b i : Nat) (w : World) (h : Deck w b i) (hi : i ≤ 1000) :
    Calls Tryd.prog 29 #[.pointer (some ⟨b, 0, none⟩)] w fun e w' => ∃ ka kn kc keep j, e = .returned (.agg (crashCells ka kn kc)) ∧ Own w' w.heap.size ka kn kc keep ∧ kn ≤ 4 ∧ j ≤ i + 5 ∧ Deck w' b j ∧ Turn (· = b) w w' := by
  have hlt := h.lt
  obtain ⟨W, hW⟩ : ∃ W, (w.alloc (.cells #[.int .i64 0, .int .i64 0, .bool false, .slice none 0 0, .string ⟨#[]⟩, .int .u32 0] 30)).alloc (.cells #[.int .i64 6, .int .i64 0, .bool false, .slice none 0 0, .string ⟨#[]⟩, .int .u32 0] 30) = W := ⟨_, rfl⟩
  have hwb : Below w.heap.size w W := by rw [← hW]; exact ((Below.refl _ _).alloc (Nat.le_refl _) _).alloc (by rw [World.size_alloc]; omega) _
  have hWs : W.heap.size = w.heap.size + 2 := by rw [← hW]; simp
  have hd := h.call hwb
  have hn := n_any b i 5 W hd (by omega) (by decide) (by decide)
  have HN := Lib.hid hn
  have HW := Lib.hid (And.intro hwb (And.intro hWs hW))
  clear hn hd hwb hWs hW h
  go_enter Tryd.func29, Tryd.ntmps29
  go_wp2_with fail
  rw [HW.out.2.2]
  refine HN.out.mono ?_
  rintro e w1 ⟨⟨k, hk, rfl⟩, hd1, ht1⟩
  have ha1 : w1.heap[w.heap.size + 1]? = some (.cells (crashCells none 0 0) 30 (0, 0)) := by
    rw [ht1.block _ (by have := HW.out.2.1; omega) (by omega), ← HW.out.2.2]
    have := heap_alloc_new (w.alloc (.cells #[.int .i64 0, .int .i64 0, .bool false, .slice none 0 0, .string ⟨#[]⟩, .int .u32 0] 30)) (.cells #[.int .i64 6, .int .i64 0, .bool false, .slice none 0 0, .string ⟨#[]⟩, .int .u32 0] 30)
    rw [World.size_alloc] at this
    exact this
  have hr1 : w1.heap[w.heap.size]? = some (.cells #[.int .i64 0, .int .i64 0, .bool false, .slice none 0 0, .string ⟨#[]⟩, .int .u32 0] 30 (0, 0)) := by
    rw [ht1.block _ (by have := HW.out.2.1; omega) (by omega), ← HW.out.2.2]
    exact (((Below.refl _ _).alloc (Nat.le_refl _) _).block _ (by rw [World.size_alloc]; omega)).trans (heap_alloc_new _ _)
  have hT1 : Turn (· = b) w w1 := (Turn.of_below HW.out.1 _).trans0 ht1
  have H1 := Lib.hid (And.intro hd1 (And.intro ha1 (And.intro hr1 (And.intro hT1 (Nat.le_trans (Nat.le_of_eq HW.out.2.1.symm) ht1.size)))))
  clear hd1 ht1 ha1 hr1 hT1
  go_wp2_with fail
  go_loopw [4] (fun v wr => ∃ (m : Nat) (ka : Option Addr) (kn kc : Nat) (keep : List UInt8) (j : Nat), v = .int .i64 (m : Int) ∧ kn + m ≤ 4 ∧ j + m ≤ i + 5 ∧ wr.heap[w.heap.size + 1]? = some (.cells (crashCells ka kn kc) 30 (0, 0)) ∧ Own wr (w.heap.size + 2) ka kn kc keep ∧ Deck wr b j ∧ Turn (· = b) w wr ∧ w.heap.size + 2 ≤ wr.heap.size ∧
    wr.heap[w.heap.size]? = some (.cells #[.int .i64 0, .int .i64 0, .bool false, .slice none 0 0, .string ⟨#[]⟩, .int .u32 0] 30 (0, 0))) (fun v _ => (intOf v).toNat)
  case atStart => exact ⟨k, none, 0, 0, [], i + 1, rfl, by omega, by omega, H1.out.2.1, Own.nil_ _ _, H1.out.1, H1.out.2.2.2.1, H1.out.2.2.2.2, H1.out.2.2.1⟩
  case round =>
    obtain ⟨m, ka, kn, kc, keep, j, rfl, hm, hj, ha, hown, hd, ht, hsz, hr⟩ := hrel
    have HR := Lib.hid (And.intro hown (And.intro hd (And.intro ht (And.intro hsz (And.intro ha hr)))))
    have hlen := hown.len
    by_cases h0 : m = 0
    · subst h0
      have cl : ∀ (B : Nat) (cs : Array Value) (i : Nat) u, wr.heap[B]? = some (.cells cs 30 (0, 0)) → cs[i]? = some u → wr.cell? ⟨B, i, none⟩ = some u := fun B cs i u h hu => by rw [cell_of_row _ _ _ _ _ _ h]; exact hu
      have a0 : wr.cell? ⟨w.heap.size + 1, 0, none⟩ = some (.int .i64 6) := cl _ _ 0 _ ha rfl
      have a1 : wr.cell? ⟨w.heap.size + 1, 1, none⟩ = some (.int .i64 0) := cl _ _ 1 _ ha rfl
      have a2 : wr.cell? ⟨w.heap.size + 1, 2, none⟩ = some (.bool false) := cl _ _ 2 _ ha rfl
      have a3 : wr.cell? ⟨w.heap.size + 1, 3, none⟩ = some (.slice ka kn kc) := cl _ _ 3 _ ha rfl
      have a4 : wr.cell? ⟨w.heap.size + 1, 4, none⟩ = some (.string ⟨#[]⟩) := cl _ _ 4 _ ha rfl
      have a5 : wr.cell? ⟨w.heap.size + 1, 5, none⟩ = some (.int .u32 0) := cl _ _ 5 _ ha rfl
      have r0 : wr.cell? ⟨w.heap.size, 0, none⟩ = some (.int .i64 0) := cl _ _ 0 _ hr rfl
      have r1 : wr.cell? ⟨w.heap.size, 1, none⟩ = some (.int .i64 0) := cl _ _ 1 _ hr rfl
      have r2 : wr.cell? ⟨w.heap.size, 2, none⟩ = some (.bool false) := cl _ _ 2 _ hr rfl
      have r3 : wr.cell? ⟨w.heap.size, 3, none⟩ = some (.slice none 0 0) := cl _ _ 3 _ hr rfl
      have r4 : wr.cell? ⟨w.heap.size, 4, none⟩ = some (.string ⟨#[]⟩) := cl _ _ 4 _ hr rfl
      have r5 : wr.cell? ⟨w.heap.size, 5, none⟩ = some (.int .u32 0) := cl _ _ 5 _ hr rfl
      have f0 : wr.frozen? ⟨w.heap.size, 0, none⟩ = false := frozen_of_row _ _ _ _ _ hr
      have f1 : wr.frozen? ⟨w.heap.size, 1, none⟩ = false := frozen_of_row _ _ _ _ _ hr
      have f2 : wr.frozen? ⟨w.heap.size, 2, none⟩ = false := frozen_of_row _ _ _ _ _ hr
      have f3 : wr.frozen? ⟨w.heap.size, 3, none⟩ = false := frozen_of_row _ _ _ _ _ hr
      have f4 : wr.frozen? ⟨w.heap.size, 4, none⟩ = false := frozen_of_row _ _ _ _ _ hr
      have f5 : wr.frozen? ⟨w.heap.size, 5, none⟩ = false := frozen_of_row _ _ _ _ _ hr
      clear ha hown hd ht hr cl
      go_wp2_with fail
      obtain ⟨hown, hd, ht, _, ha, hr⟩ := HR.out
      have hz := six_row (.int .i64 6) (.int .i64 0) (.bool false) (.slice ka kn kc) (.string ⟨#[]⟩) (.int .u32 0) hr
      have hzt := six_turn (.int .i64 6) (.int .i64 0) (.bool false) (.slice ka kn kc) (.string ⟨#[]⟩) (.int .u32 0) wr w.heap.size
      unfold sixSet at hz hzt
      generalize (((((wr.setCell ⟨w.heap.size, 0, none⟩ (.int .i64 6)).setCell ⟨w.heap.size, 1, none⟩ (.int .i64 0)).setCell ⟨w.heap.size, 2, none⟩ (.bool false)).setCell ⟨w.heap.size, 3, none⟩ (.slice ka kn kc)).setCell ⟨w.heap.size, 4, none⟩ (.string ⟨#[]⟩)).setCell ⟨w.heap.size, 5, none⟩ (.int .u32 0) = Z at hz hzt ⊢
      have z0 : Z.cell? ⟨w.heap.size, 0, none⟩ = some (.int .i64 6) := row_cell hz rfl
      have z1 : Z.cell? ⟨w.heap.size, 1, none⟩ = some (.int .i64 0) := row_cell hz rfl
      have z2 : Z.cell? ⟨w.heap.size, 2, none⟩ = some (.bool false) := row_cell hz rfl
      have z3 : Z.cell? ⟨w.heap.size, 3, none⟩ = some (.slice ka kn kc) := row_cell hz rfl
      have z4 : Z.cell? ⟨w.heap.size, 4, none⟩ = some (.string ⟨#[]⟩) := row_cell hz rfl
      have z5 : Z.cell? ⟨w.heap.size, 5, none⟩ = some (.int .u32 0) := row_cell hz rfl
      refine ⟨rfl, .agg (crashCells ka kn kc), by simp [results, go_sem, z0, z1, z2, z3, z4, z5], ka, kn, kc, keep, j, rfl, ?_, by omega, by omega, hd.turn hzt (fun k hk e => by omega), ht.trans hzt fun k hk e => by omega⟩
      exact (hown.turn hzt (hown.apart (fp := fun k => k = w.heap.size) fun k (e : k = w.heap.size) => by omega)).lower (by omega)
    · have hm0 : 0 < (m : Int) := by omega
      have a3 : wr.cell? ⟨w.heap.size + 1, 3, none⟩ = some (.slice ka kn kc) := by rw [cell_of_row _ _ _ _ _ _ ha]; rfl
      have fr : wr.frozen? ⟨w.heap.size + 1, 3, none⟩ = false := frozen_of_row _ _ _ _ _ ha
      clear ha hown hd ht hr
      go_wp2_with fail
      obtain ⟨i0, hi0, hz0, hz1, hz2⟩ := info_parts info_u8
      have a3d : wr.drew.cell? ⟨w.heap.size + 1, 3, none⟩ = some (.slice ka kn kc) := a3
      have frd : wr.drew.frozen? ⟨w.heap.size + 1, 3, none⟩ = false := fr
      have hak : (Value.slice ka kn kc).ownBlock ≠ some (w.heap.size + 1) := by
        rcases HR.out.1.form with ⟨rfl, _⟩ | ⟨g, cur, rfl, hg, _⟩
        · simp [Value.ownBlock]
        · simp [Value.ownBlock]; omega
      have hkm : kn + 1 ≤ maxLen := by unfold maxLen; omega
      go_region_law (first
          | (refine step_call (by rfl) 30 #[.pointer (some ⟨b, 0, none⟩)] (by simp [go_sem]) ?_; refine (decknext_any b j _ (show Deck wr.drew b j from HR.out.2.1) (by omega)).mono ?_; rintro e w2 ⟨⟨x, hx, rfl⟩, hd2, ht2⟩; refine ⟨_, rfl, ?_⟩; (have a32 : w2.cell? ⟨w.heap.size + 1, 3, none⟩ = some (.slice ka kn kc) := (ht2.cell (block_lt_of_cell a3d) (fun h => by have h : w.heap.size + 1 = b := h; omega)).trans a3d); (have fr2 : w2.frozen? ⟨w.heap.size + 1, 3, none⟩ = false := (ht2.frozen (block_lt_of_cell a3d) (fun h => by have h : w.heap.size + 1 = b := h; omega)).trans frd); (have a34 : (w2.alloc (.cells #[.int .u8 (IntKind.u8.wrap (x : Int))] 5)).cell? ⟨w.heap.size + 1, 3, none⟩ = some (.slice ka kn kc) := (World.cell?_alloc_lt _ _ _ (block_lt_of_cell a32)).trans a32); (have fr4 : (w2.alloc (.cells #[.int .u8 (IntKind.u8.wrap (x : Int))] 5)).frozen? ⟨w.heap.size + 1, 3, none⟩ = false := (World.frozen?_of_block (((Below.refl w2.heap.size w2).alloc (Nat.le_refl _) _).block _ (block_lt_of_cell a32))).trans fr2); (have hown2 : Own w2 (w.heap.size + 2) ka kn kc keep := (show Own wr.drew (w.heap.size + 2) ka kn kc keep from HR.out.1).turn ht2 ((show Own wr.drew (w.heap.size + 2) ka kn kc keep from HR.out.1).apart (fp := fun k => k = b) fun k (e : k = b) => by omega)); (have hown4 := hown2.alloc (.cells #[.int .u8 (IntKind.u8.wrap (x : Int))] 5)); (have hsz2 : w.heap.size + 2 ≤ w2.heap.size := Nat.le_trans HR.out.2.2.2.1 ht2.size); (have H2 := Lib.hid (And.intro hd2 ht2)); clear hd2 ht2)
          | (refine step_append_lies _ (by rfl) _ _ _ (by rfl) (w.heap.size + 2) 5 i0 _ 1 1 Tryd.underlying27 hi0 hz0 hz1 hz2 rfl (by omega) (.slice ka kn kc) kn (keep.map bv) (by rfl) hown4 ⟨w2.heap.size, 0, none⟩ 1 1 [.int .u8 (IntKind.u8.wrap (x : Int))] (by rfl) (by rfl) (World.news_of_block (cs := #[.int .u8 (IntKind.u8.wrap (x : Int))]) (t := 5) (fr := (0, 0)) (heap_alloc_new w2 _)) (by simp [Value.oneCell']) (by omega) hkm (by omega) (by rw [World.size_alloc]; omega) (w2.heap.size + 1) (by simp) ?_; intro gg cap w3 hown3 hgrow hat hltg; (have hlB : w.heap.size + 1 < (w2.alloc (.cells #[.int .u8 (IntKind.u8.wrap (x : Int))] 5)).heap.size := by rw [World.size_alloc]; omega); (have a33 : w3.cell? ⟨w.heap.size + 1, 3, none⟩ = some (.slice ka kn kc) := (World.cell?_of_block (hgrow.block _ hlB (fun e => hak e.symm))).trans a34); (have fr3 : w3.frozen? ⟨w.heap.size + 1, 3, none⟩ = false := (World.frozen?_of_block (hgrow.block _ hlB (fun e => hak e.symm))).trans fr4)))
      all_goals go_wp2_with fail
      all_goals
        obtain ⟨hownR, hdR, htR, hszR, haR, hrR⟩ := HR.out
        obtain ⟨hd2, ht2⟩ := H2.out
        obtain ⟨c, hc⟩ := u8_of x
        rw [hc] at hown3
        have hrow : ∀ r, (Value.slice ka kn kc).ownBlock = some r → w.heap.size + 2 ≤ r := by
          intro r hr
          rcases hownR.form with ⟨rfl, _⟩ | ⟨g, cur, rfl, hg, _⟩
          · simp [Value.ownBlock] at hr
          · simp [Value.ownBlock] at hr; omega
        have hta : Turn (fun k => k = b) wr (w2.alloc (.cells #[.int .u8 (IntKind.u8.wrap (x : Int))] 5)) := Turn.trans0 (show Turn (fun k => k = b) wr w2 from ⟨ht2.os, ht2.tape, ht2.output, ht2.size, ht2.block⟩) (Turn.of_below ((Below.refl _ _).alloc (Nat.le_refl _) _) _)
        have htg : Turn (fun k => w.heap.size + 2 ≤ k) (w2.alloc (.cells #[.int .u8 (IntKind.u8.wrap (x : Int))] 5)) w3 := Turn.of_grown hgrow fun r hr _ => hrow r hr
        have htw : Turn (fun k => k = b) w w3 := (htR.trans0 hta).trans htg fun k hk e => by omega
        have hrt : Turn (fun k => k = b ∨ w.heap.size + 2 ≤ k) wr w3 := (hta.more fun k _ e => .inl e).trans (htg.more fun k _ e => .inr e) fun k _ e => e
        have hd3 : Deck w3 b (j + 1) := (hd2.call ((Below.refl _ _).alloc (Nat.le_refl _) _)).turn htg fun k hk e => by omega
        have ha3 : w3.heap[w.heap.size + 1]? = some (.cells (crashCells ka kn kc) 30 (0, 0)) := (hrt.block _ (by omega) (by omega)).trans haR
        have hr3 := (hrt.block w.heap.size (by omega) (by omega)).trans hrR
        have hset := heap_setCell_same w3 (w.heap.size + 1) 3 _ _ (.slice (some ⟨gg, 0, none⟩) (kn + 1) cap) ha3
        have hown' : Own w3 (w.heap.size + 2) (some ⟨gg, 0, none⟩) (kn + 1) cap (keep ++ [c]) := by unfold Own; rw [List.map_append]; exact hown3
        refine ⟨⟨m - 1, some ⟨gg, 0, none⟩, kn + 1, cap, keep ++ [c], j + 1, ?_, by omega, by omega, hset.trans rfl, ?_, hd3.far (by show b < w.heap.size + 1; omega) _, htw.newSet (by show _ ≤ w.heap.size + 1; omega) _, ?_, ?_⟩, ?_⟩
        · congr 1; omega
        · refine hown'.far (fun y hy => ?_) _
          rcases hown'.form with ⟨h0, _⟩ | ⟨g, cur, e, hg, _⟩
          · cases h0
          · rw [e] at hy; injection hy with hy; subst hy
            show g ≠ w.heap.size + 1
            omega
        · rw [World.size_setCell]; exact Nat.le_trans hszR hrt.size
        · exact (Below.heap_setCell _ _ _ _ (by show w.heap.size ≠ w.heap.size + 1; omega)).trans hr3
        · simp only [intOf]; omega
end Go.Proofs.YtifdmgloheampaaDoor
namespace Go.Proofs.YtifdmgloheampaaDoor
open Go.RowKit DiskM ScriptM

abbrev zero6 : Array Value := #[.int .i64 0, .int .i64 0, .bool false, .slice none 0 0, .string ⟨#[]⟩, .int .u32 0]
theorem res_facts {V : World} {B : Nat} (h : V.heap[B]? = some (.cells zero6 30 (0, 0))) :
    V.cell? ⟨B, 0, none⟩ = some (.int .i64 0) ∧ V.cell? ⟨B, 1, none⟩ = some (.int .i64 0) ∧ V.cell? ⟨B, 2, none⟩ = some (.bool false) ∧ V.cell? ⟨B, 3, none⟩ = some (.slice none 0 0) ∧ V.cell? ⟨B, 4, none⟩ = some (.string ⟨#[]⟩) ∧ V.cell? ⟨B, 5, none⟩ = some (.int .u32 0) ∧
    V.frozen? ⟨B, 0, none⟩ = false ∧ V.frozen? ⟨B, 1, none⟩ = false ∧ V.frozen? ⟨B, 2, none⟩ = false ∧ V.frozen? ⟨B, 3, none⟩ = false ∧ V.frozen? ⟨B, 4, none⟩ = false ∧ V.frozen? ⟨B, 5, none⟩ = false :=
  ⟨row_cell h rfl, row_cell h rfl, row_cell h rfl, row_cell h rfl, row_cell h rfl, row_cell h rfl, frozen_of_row _ _ _ _ _ h, frozen_of_row _ _ _ _ _ h, frozen_of_row _ _ _ _ _ h, frozen_of_row _ _ _ _ _ h, frozen_of_row _ _ _ _ _ h, frozen_of_row _ _ _ _ _ h⟩
theorem act_keep {w w1 w2 : World} {b : Nat} (hb : b < w.heap.size) (hr : w1.heap[w.heap.size]? = some (.cells zero6 30 (0, 0))) (hT : Turn (fun k => k = b) w w1) (ht : Turn (fun k => k = b) w1 w2) :
    w2.heap[w.heap.size]? = some (.cells zero6 30 (0, 0)) ∧ Turn (fun k => k = b) w w2 :=
  ⟨(ht.block _ (Array.getElem?_eq_some_iff.1 hr).1 (by omega)).trans hr, hT.trans0 ht⟩
/-- an act out of a deck -/
def SeatAct (b i : Nat) (w : World) (e : Ending) (w' : World) : Prop := ∃ (v : ActV) (j : Nat), e = .returned (.agg v.x.cells) ∧ v.Ok w' w'.heap.size ∧ (v.keep = [] ∨ ∃ g o, v.x.ka = some ⟨g, o, none⟩ ∧ w.heap.size ≤ g) ∧
  ((right v.abs = true ∧ v.keep.length ≤ 4) ∨ (v.x.kind = 8 ∧ v.x.mask = 0)) ∧ j ≤ i + 8 ∧ Deck w' b j ∧ Turn (fun k => k = b) w w'
/-- the three names -/
abbrev strs3 : Array Value := #[.string ⟨#[108, 111, 103]⟩, .string ⟨#[115, 110, 97, 112]⟩, .string ⟨#[112, 114, 111, 98, 108, 101, 109]⟩]
def pick3 (y : Nat) : ByteArray := if y = 0 then ⟨#[108, 111, 103]⟩ else if y = 1 then ⟨#[115, 110, 97, 112]⟩ else ⟨#[112, 114, 111, 98, 108, 101, 109]⟩
theorem pick3_named (y : Nat) : named (pick3 y).data.toList = true := by
  unfold pick3
  split
  · decide
  · split <;> decide
theorem pick3_size (y : Nat) : (pick3 y).size ≤ 100 := by
  unfold pick3
  split
  · decide
  · split <;> decide
theorem strs_at (V : World) (y : Nat) (hy : y < 3) : (V.alloc (.cells strs3 9)).cell? ⟨V.heap.size, y, none⟩ = some (.string (pick3 y)) := by
  rw [cell_of_row _ _ _ _ _ _ (heap_alloc_new _ _)]
  obtain h | h | h : y = 0 ∨ y = 1 ∨ y = 2 := by omega
  all_goals subst h; rfl
/-- what is kept while a deck's act is drawn -/
structure Inv (w : World) (b j : Nat) (V : World) : Prop where
  deck : Deck V b j
  row : V.heap[w.heap.size]? = some (.cells zero6 30 (0, 0))
  turn : Turn (fun k => k = b) w V
theorem Inv.alloc {w V : World} {b j : Nat} (h : Inv w b j V) (o : Obj) : Inv w b j (V.alloc o) :=
  ⟨h.deck.call ((Below.refl _ _).alloc (Nat.le_refl _) _), (((Below.refl V.heap.size V).alloc (Nat.le_refl _) o).block _ (Array.getElem?_eq_some_iff.1 h.row).1).trans h.row, h.turn.trans0 (Turn.of_below ((Below.refl _ _).alloc (Nat.le_refl _) _) _)⟩
theorem Inv.step {w V V' : World} {b j j' : Nat} (h : Inv w b j V) (hb : b < w.heap.size) (ht : Turn (fun k => k = b) V V') (hd : Deck V' b j') : Inv w b j' V' :=
  ⟨hd, (ht.block _ (Array.getElem?_eq_some_iff.1 h.row).1 (by omega)).trans h.row, h.turn.trans0 ht⟩
theorem str_step {V V' : World} {b sb y : Nat} {u : Value} (hV : V.cell? ⟨sb, y, none⟩ = some u) (hne : b < sb) (ht : Turn (fun k => k = b) V V') : V'.cell? ⟨sb, y, none⟩ = some u :=
  (ht.cell (block_lt_of_cell hV) (fun h => by have h : sb = b := h; omega)).trans hV
theorem u32_of (x : Nat) : ∃ q : Nat, IntKind.u32.wrap (x : Int) = (q : Int) ∧ q < 4294967296 := by
  refine ⟨x % 4294967296, ?_, Nat.mod_lt _ (by decide)⟩
  simp only [IntKind.wrap, IntKind.signed, IntKind.bits]
  simp
theorem rightn_ok (k : Int) (hk : k = 1 ∨ k = 2 ∨ k = 3 ∨ k = 7) (n : Int) (h0 : 0 ≤ n) (h1 : n ≤ 999999) : right ⟨k, n, false, [], [], 0⟩ = true := by
  unfold right inN
  rw [if_pos hk]
  simp [h0, h1]
theorem right_arm (n : Int) (r : Bool) (h0 : 0 ≤ n) (h1 : n ≤ 999999) : right ⟨5, n, r, [], [], 0⟩ = true := by
  simp [right, inN, h0, h1]
theorem right_crash (l : List UInt8) (h : l.length ≤ 8) : right ⟨6, 0, false, l, [], 0⟩ = true := by
  simp [right, h]
theorem right_flip (n : Int) (nm : List UInt8) (m : Nat) (h0 : 0 ≤ n) (h1 : n ≤ 999999) (hn : named nm = true) (hm : m ≠ 0) : right ⟨8, n, false, [], nm, m⟩ = true := by
  simp [right, inN, h0, h1, hn, hm]
theorem bare_ok {x : ActC} (w : World) (B : Nat) (h1 : 0 ≤ x.kind ∧ x.kind ≤ 8) (h2 : 0 ≤ x.n ∧ x.n ≤ 999999) (h4 : x.kn = 0) (h5 : x.nm.size ≤ 100) (h6 : x.mask < 4294967296) : (⟨x, []⟩ : ActV).Ok w B :=
  ⟨⟨by have := h1.1; show -9223372036854775808 ≤ x.kind; omega, by have := h1.2; show x.kind ≤ 9223372036854775807; omega⟩, ⟨by have := h2.1; show -9223372036854775808 ≤ x.n; omega, by have := h2.2; show x.n ≤ 9223372036854775807; omega⟩, h4.symm, by show x.kn ≤ _; omega, by show x.nm.size ≤ _; omega, .inl rfl, h6⟩
theorem flip_end {w V Z : World} {b i y z q : Nat} (hlt : b < w.heap.size) (hV : Inv w b (i + 4) V) (hzt : Turn (fun k => k = w.heap.size) V Z) (hz : z < 3000) (hq : q < 4294967296) :
    SeatAct b i w (.returned (.agg #[.int .i64 8, .int .i64 (z : Int), .bool false, .slice none 0 0, .string (pick3 y), .int .u32 (q : Int)])) Z := by
  refine ⟨⟨⟨8, (z : Int), false, none, 0, 0, pick3 y, q⟩, []⟩, i + 4, rfl, bare_ok _ _ ⟨by simp, by simp⟩ ⟨by simp only []; omega, by simp only []; omega⟩ rfl (pick3_size y) hq, .inl rfl, ?_, by omega, hV.deck.turn hzt (fun k hk e => by omega), hV.turn.trans hzt fun k hk e => by omega⟩
  by_cases hq0 : q = 0
  · exact .inr ⟨rfl, hq0⟩
  · exact .inl ⟨right_flip (z : Int) _ q (by omega) (by omega) (pick3_named y) hq0, Nat.zero_le _⟩

set_option maxRecDepth 100000 in
set_option maxHeartbeats 2000000 in
theorem seatact_any (b i : Nat) (w : World) (h : Deck w b i) (hi : i ≤ 900) :
    Calls Tryd.prog 16 #[.pointer (some ⟨b, 0, none⟩), .bool true] w (SeatAct b i w) := by
  have hlt := h.lt
  obtain ⟨W, hW⟩ : ∃ W, w.alloc (.cells zero6 30) = W := ⟨_, rfl⟩
  have hwb : Below w.heap.size w W := by rw [← hW]; exact (Below.refl _ _).alloc (Nat.le_refl _) _
  have hrW : W.heap[w.heap.size]? = some (.cells zero6 30 (0, 0)) := by rw [← hW]; exact heap_alloc_new _ _
  have hd := h.call hwb
  have hn := n_any b i 12 W hd (by omega) (by decide) (by decide)
  have HN := Lib.hid hn
  have HW := Lib.hid (And.intro hwb (And.intro hrW hW))
  clear hn hd hwb hrW hW h
  go_enter Tryd.func16, Tryd.ntmps16
  go_wp2_with fail
  rw [HW.out.2.2]
  refine HN.out.mono ?_
  rintro e w1 ⟨⟨x, hx, rfl⟩, hd1, ht1⟩
  obtain ⟨hr1, hT1⟩ := act_keep hlt HW.out.2.1 (Turn.of_below HW.out.1 _) ht1
  clear ht1
  obtain h | h | h | h | h | h | h | h : x = 0 ∨ x = 1 ∨ x = 2 ∨ x = 3 ∨ x = 4 ∨ x = 5 ∨ x = 6 ∨ 7 ≤ x := by omega
  · subst h
    go_wp2_with (refine (n_any b _ 4 _ hd1 (by omega) (by decide) (by decide)).mono ?_; rintro e w2 ⟨⟨y, hy, rfl⟩, hd2, ht2⟩; (obtain ⟨hr2, hT2⟩ := act_keep hlt hr1 hT1 ht2); (have HD2 := Lib.hid (And.intro hd2 (And.intro hr2 hT2))); (obtain ⟨r0, r1, r2, r3, r4, r5, f0, f1, f2, f3, f4, f5⟩ := res_facts hr2); clear hd2 hr2 hT2 ht2 hd1 hr1 hT1)
    obtain ⟨hdz, hrz, hTz⟩ := HD2.out
    have hz := six_row (.int .i64 1) (.int .i64 (1 + (y : Int))) (.bool false) (.slice none 0 0) (.string ⟨#[]⟩) (.int .u32 0) hrz
    have hzt := six_turn (.int .i64 1) (.int .i64 (1 + (y : Int))) (.bool false) (.slice none 0 0) (.string ⟨#[]⟩) (.int .u32 0) w2 w.heap.size
    unfold sixSet at hz hzt
    generalize ((((((w2.setCell ⟨w.heap.size, 0, none⟩ (.int .i64 1)).setCell ⟨w.heap.size, 1, none⟩ (.int .i64 (1 + (y : Int)))).setCell ⟨w.heap.size, 2, none⟩ (.bool false)).setCell ⟨w.heap.size, 3, none⟩ (.slice none 0 0)).setCell ⟨w.heap.size, 4, none⟩ (.string ⟨#[]⟩)).setCell ⟨w.heap.size, 5, none⟩ (.int .u32 0)) = Z at hz hzt ⊢
    have z0 : Z.cell? ⟨w.heap.size, 0, none⟩ = some (.int .i64 1) := row_cell hz rfl
    have z1 : Z.cell? ⟨w.heap.size, 1, none⟩ = some (.int .i64 (1 + (y : Int))) := row_cell hz rfl
    have z2 : Z.cell? ⟨w.heap.size, 2, none⟩ = some (.bool false) := row_cell hz rfl
    have z3 : Z.cell? ⟨w.heap.size, 3, none⟩ = some (.slice none 0 0) := row_cell hz rfl
    have z4 : Z.cell? ⟨w.heap.size, 4, none⟩ = some (.string ⟨#[]⟩) := row_cell hz rfl
    have z5 : Z.cell? ⟨w.heap.size, 5, none⟩ = some (.int .u32 0) := row_cell hz rfl
    refine ⟨rfl, .agg #[.int .i64 1, .int .i64 (1 + (y : Int)), .bool false, .slice none 0 0, .string ⟨#[]⟩, .int .u32 0], by simp [results, go_sem, z0, z1, z2, z3, z4, z5], ⟨⟨1, 1 + (y : Int), false, none, 0, 0, ⟨#[]⟩, 0⟩, []⟩, i + 2, rfl, ?_, ?_, ?_, ?_, hdz.turn hzt (fun k hk e => by omega), hTz.trans hzt fun k hk e => by omega⟩
    · exact bare_ok _ _ ⟨by simp, by simp⟩ ⟨by simp only []; omega, by simp only []; omega⟩ rfl (by show (⟨#[]⟩ : ByteArray).size ≤ 100; decide) (by show 0 < 4294967296; decide)
    · exact .inl rfl
    · exact .inl ⟨rightn_ok 1 (by decide) (1 + (y : Int)) (by omega) (by omega), Nat.zero_le _⟩
    · omega
  · subst h
    go_wp2_with (refine (n_any b _ 3 _ hd1 (by omega) (by decide) (by decide)).mono ?_; rintro e w2 ⟨⟨y, hy, rfl⟩, hd2, ht2⟩; (obtain ⟨hr2, hT2⟩ := act_keep hlt hr1 hT1 ht2); (have HD2 := Lib.hid (And.intro hd2 (And.intro hr2 hT2))); (obtain ⟨r0, r1, r2, r3, r4, r5, f0, f1, f2, f3, f4, f5⟩ := res_facts hr2); clear hd2 hr2 hT2 ht2 hd1 hr1 hT1)
    obtain ⟨hdz, hrz, hTz⟩ := HD2.out
    have hz := six_row (.int .i64 3) (.int .i64 (2 + (y : Int))) (.bool false) (.slice none 0 0) (.string ⟨#[]⟩) (.int .u32 0) hrz
    have hzt := six_turn (.int .i64 3) (.int .i64 (2 + (y : Int))) (.bool false) (.slice none 0 0) (.string ⟨#[]⟩) (.int .u32 0) w2 w.heap.size
    unfold sixSet at hz hzt
    generalize ((((((w2.setCell ⟨w.heap.size, 0, none⟩ (.int .i64 3)).setCell ⟨w.heap.size, 1, none⟩ (.int .i64 (2 + (y : Int)))).setCell ⟨w.heap.size, 2, none⟩ (.bool false)).setCell ⟨w.heap.size, 3, none⟩ (.slice none 0 0)).setCell ⟨w.heap.size, 4, none⟩ (.string ⟨#[]⟩)).setCell ⟨w.heap.size, 5, none⟩ (.int .u32 0)) = Z at hz hzt ⊢
    have z0 : Z.cell? ⟨w.heap.size, 0, none⟩ = some (.int .i64 3) := row_cell hz rfl
    have z1 : Z.cell? ⟨w.heap.size, 1, none⟩ = some (.int .i64 (2 + (y : Int))) := row_cell hz rfl
    have z2 : Z.cell? ⟨w.heap.size, 2, none⟩ = some (.bool false) := row_cell hz rfl
    have z3 : Z.cell? ⟨w.heap.size, 3, none⟩ = some (.slice none 0 0) := row_cell hz rfl
    have z4 : Z.cell? ⟨w.heap.size, 4, none⟩ = some (.string ⟨#[]⟩) := row_cell hz rfl
    have z5 : Z.cell? ⟨w.heap.size, 5, none⟩ = some (.int .u32 0) := row_cell hz rfl
    refine ⟨rfl, .agg #[.int .i64 3, .int .i64 (2 + (y : Int)), .bool false, .slice none 0 0, .string ⟨#[]⟩, .int .u32 0], by simp [results, go_sem, z0, z1, z2, z3, z4, z5], ⟨⟨3, 2 + (y : Int), false, none, 0, 0, ⟨#[]⟩, 0⟩, []⟩, i + 2, rfl, ?_, ?_, ?_, ?_, hdz.turn hzt (fun k hk e => by omega), hTz.trans hzt fun k hk e => by omega⟩
    · exact bare_ok _ _ ⟨by simp, by simp⟩ ⟨by simp only []; omega, by simp only []; omega⟩ rfl (by show (⟨#[]⟩ : ByteArray).size ≤ 100; decide) (by show 0 < 4294967296; decide)
    · exact .inl rfl
    · exact .inl ⟨rightn_ok 3 (by decide) (2 + (y : Int)) (by omega) (by omega), Nat.zero_le _⟩
    · omega
  · subst h
    have HD1 := Lib.hid (And.intro hd1 (And.intro hr1 hT1))
    obtain ⟨r0, r1, r2, r3, r4, r5, f0, f1, f2, f3, f4, f5⟩ := res_facts hr1
    clear hd1 hr1 hT1
    go_wp2_with fail
    obtain ⟨hdz, hrz, hTz⟩ := HD1.out
    have hz := six_row (.int .i64 4) (.int .i64 0) (.bool false) (.slice none 0 0) (.string ⟨#[]⟩) (.int .u32 0) hrz
    have hzt := six_turn (.int .i64 4) (.int .i64 0) (.bool false) (.slice none 0 0) (.string ⟨#[]⟩) (.int .u32 0) w1 w.heap.size
    unfold sixSet at hz hzt
    generalize ((((((w1.setCell ⟨w.heap.size, 0, none⟩ (.int .i64 4)).setCell ⟨w.heap.size, 1, none⟩ (.int .i64 0)).setCell ⟨w.heap.size, 2, none⟩ (.bool false)).setCell ⟨w.heap.size, 3, none⟩ (.slice none 0 0)).setCell ⟨w.heap.size, 4, none⟩ (.string ⟨#[]⟩)).setCell ⟨w.heap.size, 5, none⟩ (.int .u32 0)) = Z at hz hzt ⊢
    have z0 : Z.cell? ⟨w.heap.size, 0, none⟩ = some (.int .i64 4) := row_cell hz rfl
    have z1 : Z.cell? ⟨w.heap.size, 1, none⟩ = some (.int .i64 0) := row_cell hz rfl
    have z2 : Z.cell? ⟨w.heap.size, 2, none⟩ = some (.bool false) := row_cell hz rfl
    have z3 : Z.cell? ⟨w.heap.size, 3, none⟩ = some (.slice none 0 0) := row_cell hz rfl
    have z4 : Z.cell? ⟨w.heap.size, 4, none⟩ = some (.string ⟨#[]⟩) := row_cell hz rfl
    have z5 : Z.cell? ⟨w.heap.size, 5, none⟩ = some (.int .u32 0) := row_cell hz rfl
    refine ⟨rfl, .agg #[.int .i64 4, .int .i64 0, .bool false, .slice none 0 0, .string ⟨#[]⟩, .int .u32 0], by simp [results, go_sem, z0, z1, z2, z3, z4, z5], ⟨⟨4, 0, false, none, 0, 0, ⟨#[]⟩, 0⟩, []⟩, i + 1, rfl, ?_, ?_, ?_, ?_, hdz.turn hzt (fun k hk e => by omega), hTz.trans hzt fun k hk e => by omega⟩
    · exact bare_ok _ _ ⟨by simp, by simp⟩ ⟨by simp, by simp⟩ rfl (by show (⟨#[]⟩ : ByteArray).size ≤ 100; decide) (by show 0 < 4294967296; decide)
    · exact .inl rfl
    · exact .inl ⟨by decide, Nat.zero_le _⟩
    · omega
  · subst h
    go_wp2_with (first
      | (refine (n_any b _ 8 _ hd1 (by omega) (by decide) (by decide)).mono ?_; rintro e w2 ⟨⟨y, hy, rfl⟩, hd2, ht2⟩; (obtain ⟨hr2, hT2⟩ := act_keep hlt hr1 hT1 ht2); clear ht2)
      | (refine (yes_any b _ 2 _ hd2 (by omega) (by decide) (by decide)).mono ?_; rintro e w3 ⟨⟨r, rfl⟩, hd3, ht3⟩; (obtain ⟨hr3, hT3⟩ := act_keep hlt hr2 hT2 ht3); (have HD3 := Lib.hid (And.intro hd3 (And.intro hr3 hT3))); (obtain ⟨r0, r1, r2, r3, r4, r5, f0, f1, f2, f3, f4, f5⟩ := res_facts hr3); clear hd3 hr3 hT3 ht3 hd1 hr1 hT1))
    obtain ⟨hdz, hrz, hTz⟩ := HD3.out
    have hz := six_row (.int .i64 5) (.int .i64 (y : Int)) (.bool r) (.slice none 0 0) (.string ⟨#[]⟩) (.int .u32 0) hrz
    have hzt := six_turn (.int .i64 5) (.int .i64 (y : Int)) (.bool r) (.slice none 0 0) (.string ⟨#[]⟩) (.int .u32 0) w3 w.heap.size
    unfold sixSet at hz hzt
    generalize ((((((w3.setCell ⟨w.heap.size, 0, none⟩ (.int .i64 5)).setCell ⟨w.heap.size, 1, none⟩ (.int .i64 (y : Int))).setCell ⟨w.heap.size, 2, none⟩ (.bool r)).setCell ⟨w.heap.size, 3, none⟩ (.slice none 0 0)).setCell ⟨w.heap.size, 4, none⟩ (.string ⟨#[]⟩)).setCell ⟨w.heap.size, 5, none⟩ (.int .u32 0)) = Z at hz hzt ⊢
    have z0 : Z.cell? ⟨w.heap.size, 0, none⟩ = some (.int .i64 5) := row_cell hz rfl
    have z1 : Z.cell? ⟨w.heap.size, 1, none⟩ = some (.int .i64 (y : Int)) := row_cell hz rfl
    have z2 : Z.cell? ⟨w.heap.size, 2, none⟩ = some (.bool r) := row_cell hz rfl
    have z3 : Z.cell? ⟨w.heap.size, 3, none⟩ = some (.slice none 0 0) := row_cell hz rfl
    have z4 : Z.cell? ⟨w.heap.size, 4, none⟩ = some (.string ⟨#[]⟩) := row_cell hz rfl
    have z5 : Z.cell? ⟨w.heap.size, 5, none⟩ = some (.int .u32 0) := row_cell hz rfl
    refine ⟨rfl, .agg #[.int .i64 5, .int .i64 (y : Int), .bool r, .slice none 0 0, .string ⟨#[]⟩, .int .u32 0], by simp [results, go_sem, z0, z1, z2, z3, z4, z5], ⟨⟨5, (y : Int), r, none, 0, 0, ⟨#[]⟩, 0⟩, []⟩, i + 3, rfl, ?_, ?_, ?_, ?_, hdz.turn hzt (fun k hk e => by omega), hTz.trans hzt fun k hk e => by omega⟩
    · exact bare_ok _ _ ⟨by simp, by simp⟩ ⟨by simp only []; omega, by simp only []; omega⟩ rfl (by show (⟨#[]⟩ : ByteArray).size ≤ 100; decide) (by show 0 < 4294967296; decide)
    · exact .inl rfl
    · exact .inl ⟨right_arm (y : Int) r (by omega) (by omega), Nat.zero_le _⟩
    · omega
  · subst h
    go_wp2_with (refine (deckcrash_any b _ _ hd1 (by omega)).mono ?_; rintro e w2 ⟨ka, kn, kc, keep, j, rfl, hown, hkn, hj, hd2, ht2⟩; (obtain ⟨hr2, hT2⟩ := act_keep hlt hr1 hT1 ht2); (have hs1 : w.heap.size < w1.heap.size := (Array.getElem?_eq_some_iff.1 hr1).1); (have HO := Lib.hid (And.intro hown hs1)); (have HD2 := Lib.hid (And.intro hd2 (And.intro hr2 hT2))); (obtain ⟨r0, r1, r2, r3, r4, r5, f0, f1, f2, f3, f4, f5⟩ := res_facts hr2); clear hd2 hr2 hT2 ht2 hd1 hr1 hT1 hown hs1)
    obtain ⟨hdz, hrz, hTz⟩ := HD2.out
    have hz := six_row (.int .i64 6) (.int .i64 0) (.bool false) (.slice ka kn kc) (.string ⟨#[]⟩) (.int .u32 0) hrz
    have hzt := six_turn (.int .i64 6) (.int .i64 0) (.bool false) (.slice ka kn kc) (.string ⟨#[]⟩) (.int .u32 0) w2 w.heap.size
    unfold sixSet at hz hzt
    generalize ((((((w2.setCell ⟨w.heap.size, 0, none⟩ (.int .i64 6)).setCell ⟨w.heap.size, 1, none⟩ (.int .i64 0)).setCell ⟨w.heap.size, 2, none⟩ (.bool false)).setCell ⟨w.heap.size, 3, none⟩ (.slice ka kn kc)).setCell ⟨w.heap.size, 4, none⟩ (.string ⟨#[]⟩)).setCell ⟨w.heap.size, 5, none⟩ (.int .u32 0)) = Z at hz hzt ⊢
    have z0 : Z.cell? ⟨w.heap.size, 0, none⟩ = some (.int .i64 6) := row_cell hz rfl
    have z1 : Z.cell? ⟨w.heap.size, 1, none⟩ = some (.int .i64 0) := row_cell hz rfl
    have z2 : Z.cell? ⟨w.heap.size, 2, none⟩ = some (.bool false) := row_cell hz rfl
    have z3 : Z.cell? ⟨w.heap.size, 3, none⟩ = some (.slice ka kn kc) := row_cell hz rfl
    have z4 : Z.cell? ⟨w.heap.size, 4, none⟩ = some (.string ⟨#[]⟩) := row_cell hz rfl
    have z5 : Z.cell? ⟨w.heap.size, 5, none⟩ = some (.int .u32 0) := row_cell hz rfl
    refine ⟨rfl, .agg #[.int .i64 6, .int .i64 0, .bool false, .slice ka kn kc, .string ⟨#[]⟩, .int .u32 0], by simp [results, go_sem, z0, z1, z2, z3, z4, z5], ⟨⟨6, 0, false, ka, kn, kc, ⟨#[]⟩, 0⟩, keep⟩, j, rfl, ?_, ?_, ?_, ?_, hdz.turn hzt (fun k hk e => by omega), hTz.trans hzt fun k hk e => by omega⟩
    · have hs1 := HO.out.2
      have hoz := HO.out.1.turn hzt (HO.out.1.apart (fp := fun k => k = w.heap.size) fun k (e : k = w.heap.size) => by omega)
      exact ⟨(by decide : (-9223372036854775808 : Int) ≤ 6 ∧ (6 : Int) ≤ 9223372036854775807), (by decide : (-9223372036854775808 : Int) ≤ 0 ∧ (0 : Int) ≤ 9223372036854775807), hoz.len, by show kn ≤ _; omega, (by decide : (⟨#[]⟩ : ByteArray).size ≤ 9223372036854775807), hoz.rd, (by decide : 0 < 4294967296)⟩
    · rcases HO.out.1.form with ⟨_, _, _, rfl⟩ | ⟨g, cur, rfl, hg, _⟩
      · exact .inl rfl
      · exact .inr ⟨g, 0, rfl, by have := HO.out.2; omega⟩
    · exact .inl ⟨right_crash keep (by have := HO.out.1.len; omega), by have := HO.out.1.len; show keep.length ≤ 4; omega⟩
    · omega
  · subst h
    go_wp2_with (first
      | (go_at_call_of 24 (Value.int IntKind.i64 4); refine (n_any b _ 4 _ hd1 (by omega) (by decide) (by decide)).mono ?_; rintro e w2 ⟨⟨y, hy, rfl⟩, hd2, ht2⟩; (obtain ⟨hr2, hT2⟩ := act_keep hlt hr1 hT1 ht2); clear ht2)
      | (go_at_call_of 24 (Value.int IntKind.i64 700); refine (n_any b _ 700 _ hd2 (by omega) (by decide) (by decide)).mono ?_; rintro e w3 ⟨⟨z, hz, rfl⟩, hd3, ht3⟩; (obtain ⟨hr3, hT3⟩ := act_keep hlt hr2 hT2 ht3); (obtain ⟨q, hq, hqq⟩ : ∃ q : Nat, (y : Int) * (z : Int) = (q : Int) ∧ q ≤ 2100 := ⟨y * z, by norm_cast, Nat.le_trans (Nat.mul_le_mul (show y ≤ 3 by omega) (show z ≤ 700 by omega)) (by decide)⟩); (have HD3 := Lib.hid (And.intro hd3 (And.intro hr3 hT3))); (obtain ⟨r0, r1, r2, r3, r4, r5, f0, f1, f2, f3, f4, f5⟩ := res_facts hr3); clear hd3 hr3 hT3 ht3 hd2 hr2 hT2 hd1 hr1 hT1))
    obtain ⟨hdz, hrz, hTz⟩ := HD3.out
    have hz := six_row (.int .i64 7) (.int .i64 (q : Int)) (.bool false) (.slice none 0 0) (.string ⟨#[]⟩) (.int .u32 0) hrz
    have hzt := six_turn (.int .i64 7) (.int .i64 (q : Int)) (.bool false) (.slice none 0 0) (.string ⟨#[]⟩) (.int .u32 0) w3 w.heap.size
    unfold sixSet at hz hzt
    generalize ((((((w3.setCell ⟨w.heap.size, 0, none⟩ (.int .i64 7)).setCell ⟨w.heap.size, 1, none⟩ (.int .i64 (q : Int))).setCell ⟨w.heap.size, 2, none⟩ (.bool false)).setCell ⟨w.heap.size, 3, none⟩ (.slice none 0 0)).setCell ⟨w.heap.size, 4, none⟩ (.string ⟨#[]⟩)).setCell ⟨w.heap.size, 5, none⟩ (.int .u32 0)) = Z at hz hzt ⊢
    have z0 : Z.cell? ⟨w.heap.size, 0, none⟩ = some (.int .i64 7) := row_cell hz rfl
    have z1 : Z.cell? ⟨w.heap.size, 1, none⟩ = some (.int .i64 (q : Int)) := row_cell hz rfl
    have z2 : Z.cell? ⟨w.heap.size, 2, none⟩ = some (.bool false) := row_cell hz rfl
    have z3 : Z.cell? ⟨w.heap.size, 3, none⟩ = some (.slice none 0 0) := row_cell hz rfl
    have z4 : Z.cell? ⟨w.heap.size, 4, none⟩ = some (.string ⟨#[]⟩) := row_cell hz rfl
    have z5 : Z.cell? ⟨w.heap.size, 5, none⟩ = some (.int .u32 0) := row_cell hz rfl
    refine ⟨rfl, .agg #[.int .i64 7, .int .i64 (q : Int), .bool false, .slice none 0 0, .string ⟨#[]⟩, .int .u32 0], by simp [results, go_sem, z0, z1, z2, z3, z4, z5], ⟨⟨7, (q : Int), false, none, 0, 0, ⟨#[]⟩, 0⟩, []⟩, i + 3, rfl, ?_, ?_, ?_, ?_, hdz.turn hzt (fun k hk e => by omega), hTz.trans hzt fun k hk e => by omega⟩
    · exact bare_ok _ _ ⟨by simp, by simp⟩ ⟨by simp only []; omega, by simp only []; omega⟩ rfl (by show (⟨#[]⟩ : ByteArray).size ≤ 100; decide) (by show 0 < 4294967296; decide)
    · exact .inl rfl
    · exact .inl ⟨rightn_ok 7 (by decide) ((q : Int)) (by omega) (by omega), Nat.zero_le _⟩
    · omega
  · subst h
    have hi1 : Inv w b (i + 1) w1.drew := ⟨hd1, hr1, hT1.drew⟩
    have hi1a := hi1.alloc (.cells strs3 9)
    have hw1 : w.heap.size ≤ w1.heap.size := hT1.size
    clear hd1 hr1 hT1
    go_wp2_with fail
    go_region_law (first
      | (refine step_call (by rfl) 24 #[.pointer (some ⟨b, 0, none⟩), .int .i64 3] (by simp [go_sem]) ?_; refine (n_any b (i + 1) 3 _ (Inv.deck (w := w) (by assumption)) (by omega) (by decide) (by decide)).mono ?_; rintro e w2 ⟨⟨y, hy, rfl⟩, hd2, ht2⟩; refine ⟨_, rfl, ?_⟩; (have hi2 : Inv w b (i + 2) w2 := Inv.step (by assumption) hlt ht2 hd2); (have hi2a := hi2.alloc (.cells strs3 9)); (have hw2 : w.heap.size ≤ w2.heap.size := hi2.turn.size); (have hy0 : (0 : Int) ≤ (y : Int) := Int.natCast_nonneg _); (have hy1 : (y : Int) < 3 := by omega); (first | (have s2 : w2.cell? ⟨w1.heap.size, y, none⟩ = some (.string (pick3 y)) := str_step (strs_at w1.drew y hy) (by show b < w1.heap.size; omega) ht2) | skip); (have s2a := strs_at w2 y hy))
      | (refine step_call (by rfl) 24 #[.pointer (some ⟨b, 0, none⟩), .int .i64 3000] (by simp [go_sem]) ?_; refine (n_any b (i + 2) 3000 _ (Inv.deck (w := w) (by assumption)) (by omega) (by decide) (by decide)).mono ?_; rintro e w3 ⟨⟨z, hz, rfl⟩, hd3, ht3⟩; refine ⟨_, rfl, ?_⟩; (have hi3 : Inv w b (i + 3) w3 := Inv.step (by assumption) hlt ht3 hd3); (have hi3a := hi3.alloc (.cells strs3 9)); (have hw3 : w.heap.size ≤ w3.heap.size := hi3.turn.size); (first | (have s3 := str_step (y := y) (u := .string (pick3 y)) (b := b) (by assumption) (by omega) ht3) | skip); (have s3a := strs_at w3 y hy))
      | (refine step_call (by rfl) 30 #[.pointer (some ⟨b, 0, none⟩)] (by simp [go_sem]) ?_; refine (decknext_any b (i + 3) _ (Inv.deck (w := w) (by assumption)) (by omega)).mono ?_; rintro e w4 ⟨⟨m, hm, rfl⟩, hd4, ht4⟩; refine ⟨_, rfl, ?_⟩; (have hi4 : Inv w b (i + 4) w4 := Inv.step (by assumption) hlt ht4 hd4); (have hi4a := hi4.alloc (.cells strs3 9)); (have hw4 : w.heap.size ≤ w4.heap.size := hi4.turn.size); (first | (have s4 := str_step (y := y) (u := .string (pick3 y)) (b := b) (by assumption) (by omega) ht4) | skip); (have s4a := strs_at w4 y hy); (obtain ⟨q, hq, hq32⟩ := u32_of m); (obtain ⟨r0, r1, r2, r3, r4, r5, f0, f1, f2, f3, f4, f5⟩ := res_facts hi4.row); (obtain ⟨r0a, r1a, r2a, r3a, r4a, r5a, f0a, f1a, f2a, f3a, f4a, f5a⟩ := res_facts hi4a.row)))
    all_goals have hz3 := hz
    all_goals go_wp2_with fail
    iterate 8
      focus
        have hz := six_row (.int .i64 8) (.int .i64 (z : Int)) (.bool false) (.slice none 0 0) (.string (pick3 y)) (.int .u32 (q : Int)) hi4.row
        have hzt := six_turn (.int .i64 8) (.int .i64 (z : Int)) (.bool false) (.slice none 0 0) (.string (pick3 y)) (.int .u32 (q : Int)) (w4) w.heap.size
        unfold sixSet at hz hzt
        generalize (((((((w4).setCell ⟨w.heap.size, 0, none⟩ (.int .i64 8)).setCell ⟨w.heap.size, 1, none⟩ (.int .i64 (z : Int))).setCell ⟨w.heap.size, 2, none⟩ (.bool false)).setCell ⟨w.heap.size, 3, none⟩ (.slice none 0 0)).setCell ⟨w.heap.size, 4, none⟩ (.string (pick3 y))).setCell ⟨w.heap.size, 5, none⟩ (.int .u32 (q : Int))) = Z at hz hzt ⊢
        have z0 : Z.cell? ⟨w.heap.size, 0, none⟩ = some (.int .i64 8) := row_cell hz rfl
        have z1 : Z.cell? ⟨w.heap.size, 1, none⟩ = some (.int .i64 (z : Int)) := row_cell hz rfl
        have z2 : Z.cell? ⟨w.heap.size, 2, none⟩ = some (.bool false) := row_cell hz rfl
        have z3 : Z.cell? ⟨w.heap.size, 3, none⟩ = some (.slice none 0 0) := row_cell hz rfl
        have z4 : Z.cell? ⟨w.heap.size, 4, none⟩ = some (.string (pick3 y)) := row_cell hz rfl
        have z5 : Z.cell? ⟨w.heap.size, 5, none⟩ = some (.int .u32 (q : Int)) := row_cell hz rfl
        have key := flip_end hlt hi4 hzt hz3 hq32 (y := y)
        refine ⟨rfl, _, ?_, key⟩
        simp [results, go_sem, z0, z1, z2, z3, z4, z5]
    have hz := six_row (.int .i64 8) (.int .i64 (z : Int)) (.bool false) (.slice none 0 0) (.string (pick3 y)) (.int .u32 (q : Int)) hi4a.row
    have hzt := six_turn (.int .i64 8) (.int .i64 (z : Int)) (.bool false) (.slice none 0 0) (.string (pick3 y)) (.int .u32 (q : Int)) (w4.alloc (.cells strs3 9)) w.heap.size
    unfold sixSet at hz hzt
    generalize (((((((w4.alloc (.cells strs3 9)).setCell ⟨w.heap.size, 0, none⟩ (.int .i64 8)).setCell ⟨w.heap.size, 1, none⟩ (.int .i64 (z : Int))).setCell ⟨w.heap.size, 2, none⟩ (.bool false)).setCell ⟨w.heap.size, 3, none⟩ (.slice none 0 0)).setCell ⟨w.heap.size, 4, none⟩ (.string (pick3 y))).setCell ⟨w.heap.size, 5, none⟩ (.int .u32 (q : Int))) = Z at hz hzt ⊢
    have z0 : Z.cell? ⟨w.heap.size, 0, none⟩ = some (.int .i64 8) := row_cell hz rfl
    have z1 : Z.cell? ⟨w.heap.size, 1, none⟩ = some (.int .i64 (z : Int)) := row_cell hz rfl
    have z2 : Z.cell? ⟨w.heap.size, 2, none⟩ = some (.bool false) := row_cell hz rfl
    have z3 : Z.cell? ⟨w.heap.size, 3, none⟩ = some (.slice none 0 0) := row_cell hz rfl
    have z4 : Z.cell? ⟨w.heap.size, 4, none⟩ = some (.string (pick3 y)) := row_cell hz rfl
    have z5 : Z.cell? ⟨w.heap.size, 5, none⟩ = some (.int .u32 (q : Int)) := row_cell hz rfl
    have key := flip_end hlt hi4a hzt hz3 hq32 (y := y)
    refine ⟨rfl, _, ?_, key⟩
    simp [results, go_sem, z0, z1, z2, z3, z4, z5]
  · have e0 : ((x : Int) == 0) = false := by simp; omega
    have e1 : ((x : Int) == 1) = false := by simp; omega
    have e2 : ((x : Int) == 2) = false := by simp; omega
    have e3 : ((x : Int) == 3) = false := by simp; omega
    have e4 : ((x : Int) == 4) = false := by simp; omega
    have e5 : ((x : Int) == 5) = false := by simp; omega
    have e6 : ((x : Int) == 6) = false := by simp; omega
    go_wp2_with (refine (n_any b _ 5 _ hd1 (by omega) (by decide) (by decide)).mono ?_; rintro e w2 ⟨⟨y, hy, rfl⟩, hd2, ht2⟩; (obtain ⟨hr2, hT2⟩ := act_keep hlt hr1 hT1 ht2); (have HD2 := Lib.hid (And.intro hd2 (And.intro hr2 hT2))); (obtain ⟨r0, r1, r2, r3, r4, r5, f0, f1, f2, f3, f4, f5⟩ := res_facts hr2); clear hd2 hr2 hT2 ht2 hd1 hr1 hT1)
    obtain ⟨hdz, hrz, hTz⟩ := HD2.out
    have hz := six_row (.int .i64 2) (.int .i64 (y : Int)) (.bool false) (.slice none 0 0) (.string ⟨#[]⟩) (.int .u32 0) hrz
    have hzt := six_turn (.int .i64 2) (.int .i64 (y : Int)) (.bool false) (.slice none 0 0) (.string ⟨#[]⟩) (.int .u32 0) w2 w.heap.size
    unfold sixSet at hz hzt
    generalize ((((((w2.setCell ⟨w.heap.size, 0, none⟩ (.int .i64 2)).setCell ⟨w.heap.size, 1, none⟩ (.int .i64 (y : Int))).setCell ⟨w.heap.size, 2, none⟩ (.bool false)).setCell ⟨w.heap.size, 3, none⟩ (.slice none 0 0)).setCell ⟨w.heap.size, 4, none⟩ (.string ⟨#[]⟩)).setCell ⟨w.heap.size, 5, none⟩ (.int .u32 0)) = Z at hz hzt ⊢
    have z0 : Z.cell? ⟨w.heap.size, 0, none⟩ = some (.int .i64 2) := row_cell hz rfl
    have z1 : Z.cell? ⟨w.heap.size, 1, none⟩ = some (.int .i64 (y : Int)) := row_cell hz rfl
    have z2 : Z.cell? ⟨w.heap.size, 2, none⟩ = some (.bool false) := row_cell hz rfl
    have z3 : Z.cell? ⟨w.heap.size, 3, none⟩ = some (.slice none 0 0) := row_cell hz rfl
    have z4 : Z.cell? ⟨w.heap.size, 4, none⟩ = some (.string ⟨#[]⟩) := row_cell hz rfl
    have z5 : Z.cell? ⟨w.heap.size, 5, none⟩ = some (.int .u32 0) := row_cell hz rfl
    refine ⟨rfl, .agg #[.int .i64 2, .int .i64 (y : Int), .bool false, .slice none 0 0, .string ⟨#[]⟩, .int .u32 0], by simp [results, go_sem, z0, z1, z2, z3, z4, z5], ⟨⟨2, (y : Int), false, none, 0, 0, ⟨#[]⟩, 0⟩, []⟩, i + 2, rfl, ?_, ?_, ?_, ?_, hdz.turn hzt (fun k hk e => by omega), hTz.trans hzt fun k hk e => by omega⟩
    · exact bare_ok _ _ ⟨by simp, by simp⟩ ⟨by simp only []; omega, by simp only []; omega⟩ rfl (by show (⟨#[]⟩ : ByteArray).size ≤ 100; decide) (by show 0 < 4294967296; decide)
    · exact .inl rfl
    · exact .inl ⟨rightn_ok 2 (by decide) ((y : Int)) (by omega) (by omega), Nat.zero_le _⟩
    · omega
end Go.Proofs.YtifdmgloheampaaDoor
namespace Go.Proofs.YtifdmgloheampaaDoor
open Go.RowKit DiskM ScriptM

theorem ActsAt.turn {fp : Nat → Prop} {w w' : World} {B : Nat} {a : Option Addr} {c : Nat} {vs : List ActV} (h : ActsAt w B a c vs) (ht : Turn fp w w') (hfp : ∀ k, fp k → k < B) : ActsAt w' B a c vs :=
  ⟨h.row.turn ht (fun x hx hp => by have := h.row.row_le x.block (by rw [hx]; rfl); have := hfp _ hp; omega), fun v hv => ⟨(h.each v hv).1.keep ht.size ((h.each v hv).2.imp id fun ⟨g, o, e1, e2, _⟩ => ⟨g, o, e1, fun hl => ht.block g hl (fun hp => by have := hfp _ hp; omega)⟩), (h.each v hv).2⟩⟩
theorem ActsAt.lt {w : World} {B : Nat} {a : Option Addr} {c : Nat} {vs : List ActV} (h : ActsAt w B a c vs) {g : Nat} (hg : w.heap.size ≤ g) : a.map (·.block) ≠ some g := by
  intro e
  rcases h.row.form with ⟨h0, _⟩ | ⟨g', cur, e1, _, hg', _⟩
  · rw [h0] at e; cases e
  · rw [e1] at e; injection e with e
    have e : g' = g := e
    omega
/-- one act more, out of a block that was laid for it -/
theorem ActsAt.more {V w3 : World} {B : Nat} {a a3 : Option Addr} {c c3 : Nat} {vs : List ActV} {X : ActV} (ha : ActsAt V B a c vs) (hok : X.Ok V V.heap.size) (hk : X.keep = [] ∨ ∃ g o, X.x.ka = some ⟨g, o, none⟩ ∧ B ≤ g ∧ a.map (·.block) ≠ some g)
    (hg : V.grownBy w3 (a.map (·.block))) (ho : Row w3 B 30 6 a3 (vs.length + 1) c3 (cellsL vs ++ X.x.cells.toList)) (hat : a3.map (·.block) = a.map (·.block) ∨ a3.map (·.block) = some V.heap.size) : ActsAt w3 B a3 c3 (vs ++ [X]) :=
  ha.snoc ⟨hok, hk.imp id fun ⟨g, o, e1, e2, _⟩ => ⟨g, o, e1, e2⟩⟩ hg ho hat hk
theorem ActsAt.grew {V w3 : World} {B : Nat} {a : Option Addr} {c : Nat} {vs : List ActV} (ha : ActsAt V B a c vs) (hg : V.grownBy w3 (a.map (·.block))) : Turn (fun k => B ≤ k) V w3 :=
  Turn.of_grown hg fun r hr _ => ha.row.row_le r hr
def DrawnV (v : ActV) : Prop := (right v.abs = true ∧ v.keep.length ≤ 4) ∨ (v.x.kind = 8 ∧ v.x.mask = 0)
/-- what is kept while a script is drawn -/
structure Scr (w : World) (b j : Nat) (a : Option Addr) (c : Nat) (vs : List ActV) (V : World) : Prop where
  acts : ActsAt V w.heap.size a c vs
  drawn : ∀ v ∈ vs, DrawnV v
  deck : Deck V b j
  turn : Turn (fun k => k = b) w V
theorem Scr.step {w V V' : World} {b j j' : Nat} {a : Option Addr} {c : Nat} {vs : List ActV} (h : Scr w b j a c vs V) (hb : b < w.heap.size) (ht : Turn (fun k => k = b) V V') (hd : Deck V' b j') : Scr w b j' a c vs V' :=
  ⟨h.acts.turn ht fun k (e : k = b) => by omega, h.drawn, hd, h.turn.trans0 ht⟩
theorem Scr.alloc {w V : World} {b j : Nat} {a : Option Addr} {c : Nat} {vs : List ActV} (h : Scr w b j a c vs V) (o : Obj) : Scr w b j a c vs (V.alloc o) :=
  ⟨h.acts.call ((Below.refl _ _).alloc (Nat.le_refl _) _), h.drawn, h.deck.call ((Below.refl _ _).alloc (Nat.le_refl _) _), h.turn.trans0 (Turn.of_below ((Below.refl _ _).alloc (Nat.le_refl _) _) _)⟩
theorem Scr.more {w V w3 : World} {b j : Nat} {a a3 : Option Addr} {c c3 : Nat} {vs : List ActV} {X : ActV} (h : Scr w b j a c vs V) (hb : b < w.heap.size) (hX : DrawnV X) (hok : X.Ok V V.heap.size) (hk : X.keep = [] ∨ ∃ g o, X.x.ka = some ⟨g, o, none⟩ ∧ w.heap.size ≤ g ∧ a.map (·.block) ≠ some g)
    (hg : V.grownBy w3 (a.map (·.block))) (ho : Row w3 w.heap.size 30 6 a3 (vs.length + 1) c3 (cellsL vs ++ X.x.cells.toList)) (hat : a3.map (·.block) = a.map (·.block) ∨ a3.map (·.block) = some V.heap.size) : Scr w b j a3 c3 (vs ++ [X]) w3 :=
  ⟨h.acts.more hok hk hg ho hat, fun v hv => by
    rcases List.mem_append.1 hv with hv | hv
    · exact h.drawn v hv
    · rw [List.mem_singleton.1 hv]; exact hX, h.deck.turn (h.acts.grew hg) fun k hk2 e => by have : w.heap.size ≤ k := e; omega, h.turn.trans (h.acts.grew hg) fun k hk2 e => by have : w.heap.size ≤ k := e; omega⟩
theorem Scr.row_snoc {w V : World} {b j : Nat} {a : Option Addr} {c : Nat} {vs : List ActV} {X : ActV} (h : Scr w b j a c (vs ++ [X]) V) : Row V w.heap.size 30 6 a (vs.length + 1) c (cellsL (vs ++ [X])) := by
  have h1 := h.acts.row
  rwa [List.length_append, List.length_singleton] at h1
theorem two_more {n : Nat} (h : n ≤ 100) : n + 1 + 1 ≤ 9223372036854775807 ∧ (n + 1 + 1) * 72 ≤ 140737488355328 := by omega
def ScriptIs (b most : Nat) (w : World) (e : Ending) (w' : World) : Prop := ∃ vs a c j, e = .returned (.slice a vs.length c) ∧ vs.length ≤ 2 * most + 1 ∧ Scr w b j a c vs w'
theorem bare_new {x : ActC} (w : World) (h1 : 0 ≤ x.kind ∧ x.kind ≤ 8) (h2 : 0 ≤ x.n ∧ x.n ≤ 999999) (h4 : x.kn = 0) (h5 : x.nm.size ≤ 100) (h6 : x.mask < 4294967296) : (⟨x, []⟩ : ActV).Ok w w.heap.size := by
  refine ⟨⟨?_, ?_⟩, ⟨?_, ?_⟩, h4.symm, ?_, ?_, .inl rfl, h6⟩
  · have := h1.1; show -9223372036854775808 ≤ x.kind; omega
  · have := h1.2; show x.kind ≤ 9223372036854775807; omega
  · have := h2.1; show -9223372036854775808 ≤ x.n; omega
  · have := h2.2; show x.n ≤ 9223372036854775807; omega
  · show x.kn ≤ _; omega
  · show x.nm.size ≤ _; omega
theorem one6 (a b : Int) (c : Bool) (d : Option Addr) (e f : Nat) (g : ByteArray) (h : Int) : ∀ u ∈ (#[.int .i64 a, .int .i64 b, .bool c, .slice d e f, .string g, .int .u32 h] : Array Value).toList, u.oneCell' = true := by
  intro u hu; simp at hu; rcases hu with rfl | rfl | rfl | rfl | rfl | rfl <;> rfl
set_option maxRecDepth 100000 in
set_option maxHeartbeats 2000000 in
theorem script_any (b i most : Nat) (w : World) (h : Deck w b i) (hi : i ≤ 10) (hm : most ≤ 20) :
    Calls Tryd.prog 13 #[.pointer (some ⟨b, 0, none⟩), .int .i64 (most : Int), .bool true] w (ScriptIs b most w) := by
  have hlt := h.lt
  obtain ⟨i1, hi1, hz1, hs1, hb1⟩ := info_parts info_act
  have HI := Lib.hid (And.intro hi1 (And.intro hz1 (And.intro hs1 hb1)))
  clear hi1 hz1 hs1 hb1
  have hy := yes_any b i 9 w h (by omega) (by decide) (by decide)
  have HY := Lib.hid hy
  clear hy h
  go_enter Tryd.func13, Tryd.ntmps13
  go_upto_if 12 with (refine HY.out.mono ?_; rintro e w1 ⟨⟨r, rfl⟩, hd1, ht1⟩; (have HS1 := Lib.hid (show Scr w b (i + 1) none 0 [] w1 from ⟨ActsAt.nil_ _ _, by simp, hd1, ht1⟩)); clear hd1 ht1)
  go_cut [7] (fun o wx => ∃ vs a c j, o = .slice a vs.length c ∧ vs.length ≤ 1 ∧ j ≤ 12 ∧ Scr w b j a c vs wx)
  case first =>
    cases r with
    | true =>
      go_wp2_with fail
      go_meet
      exact ⟨[], none, 0, i + 1, rfl, by simp, by omega, HS1.out⟩
    | false =>
      have hsz1 : w.heap.size ≤ w1.heap.size := HS1.out.turn.size
      go_wp2_with (first
        | (refine (n_any b _ 4 _ HS1.out.deck (by omega) (by decide) (by decide)).mono ?_; rintro e w2 ⟨⟨y, hy, rfl⟩, hd2, ht2⟩; (have hs2 := (HS1.out.step hlt ht2 hd2).alloc (.cells #[.int .i64 1, .int .i64 (1 + (y : Int)), .bool false, .slice none 0 0, .string ⟨#[]⟩, .int .u32 0] 30)); (have hsz2 : w.heap.size ≤ w2.heap.size := Nat.le_trans hsz1 ht2.size); (have HS2 := Lib.hid hs2); clear hd2 ht2 hs2)
        | (at_builtin; refine wpList_append_row rfl (.tmp 13) (.tmp 18) 22 rfl _ _ 30 i1 _ 6 72 Tryd.underlying22 HI.out.1 HI.out.2.1 HI.out.2.2.1 HI.out.2.2.2 rfl (by decide) w.heap.size (Below.refl _ _) (by rw [World.size_alloc]; omega) none 0 0 _ rfl HS2.out.acts.row ⟨w2.heap.size, 0, none⟩ 1 1 (#[.int .i64 1, .int .i64 (1 + (y : Int)), .bool false, .slice none 0 0, .string ⟨#[]⟩, .int .u32 0] : Array Value).toList rfl rfl (cells_new w2 _ _ _) (one6 _ _ _ _ _ _ _ _) 1 rfl (by decide) (by decide) ?_; intro a3 c3 w3 ho3 hg3 hb3 hat3))
      go_meet
      refine ⟨[⟨⟨1, 1 + (y : Int), false, none, 0, 0, ⟨#[]⟩, 0⟩, []⟩], a3, c3, i + 1 + 1, rfl, by simp, by omega, ?_⟩
      exact HS2.out.more (X := ⟨⟨1, 1 + (y : Int), false, none, 0, 0, ⟨#[]⟩, 0⟩, []⟩) hlt (.inl ⟨rightn_ok 1 (by decide) (1 + (y : Int)) (by omega) (by omega), Nat.zero_le _⟩) (bare_new _ ⟨by simp, by simp⟩ ⟨by simp only []; omega, by simp only []; omega⟩ rfl (by show (⟨#[]⟩ : ByteArray).size ≤ 100; decide) (by show 0 < 4294967296; decide)) (.inl rfl) hg3 ho3 hat3
  case rest =>
    obtain ⟨vs, a, c, j, rfl, hvl, hj, hs⟩ := hcut
    have HSC := Lib.hid hs
    clear hs HS1
    have hn := n_any b j (most + 1) wc HSC.out.deck (by omega) (by omega) (by omega)
    rw [show ((most + 1 : Nat) : Int) = (most : Int) + 1 by omega] at hn
    have HN := Lib.hid hn
    clear hn
    go_wp2_with (refine HN.out.mono ?_; rintro e w1 ⟨⟨k, hk, rfl⟩, hd1, ht1⟩; (have HS0 := Lib.hid (HSC.out.step hlt ht1 hd1)); clear hd1 ht1)
    go_loopw [7, 8] (fun o v wr => ∃ (m : Nat) (vs : List ActV) (a : Option Addr) (c j : Nat), o = .slice a vs.length c ∧ v = .int .i64 (m : Int) ∧ vs.length + 2 * m ≤ 2 * most + 1 ∧ j + 10 * m ≤ 10 * most + 13 ∧ Scr w b j a c vs wr) (fun _ v _ => (intOf v).toNat)
    case atStart => exact ⟨k, vs, a, c, j + 1, rfl, rfl, by omega, by omega, HS0.out⟩
    case round =>
      obtain ⟨m, vs, a, c, j, rfl, rfl, hvm, hjm, hs⟩ := hrel
      by_cases h0 : m = 0
      · subst h0
        have HS := Lib.hid hs
        clear hs HS0
        go_wp2_with fail
        go_ret
        exact ⟨vs, a, c, j, rfl, by omega, HS.out⟩
      · have hm0 : 0 < (m : Int) := by omega
        have HS := Lib.hid hs
        have hszr : w.heap.size ≤ wr.heap.size := hs.turn.size
        clear hs HS0
        go_wp2_with fail
        refine (seatact_any b j wr HS.out.deck (by omega)).mono ?_
        rintro e w2 ⟨⟨⟨kd, vn, dn, ka, kn, kc, nm, mk⟩, keep⟩, j2, rfl, hok, hkp, hdr, hj2, hd2, ht2⟩
        simp only [ActC.cells]
        obtain ⟨X, hX⟩ : ∃ X : ActV, X = ⟨⟨kd, vn, dn, ka, kn, kc, nm, mk⟩, keep⟩ := ⟨_, rfl⟩
        have hXc : X.x.cells = #[.int .i64 kd, .int .i64 vn, .bool dn, .slice ka kn kc, .string nm, .int .u32 (mk : Int)] := by rw [hX]; rfl
        rw [← hX] at hok hdr
        have hs2 := HS.out.step hlt ht2 hd2
        have hkp2 : X.keep = [] ∨ ∃ g o, X.x.ka = some ⟨g, o, none⟩ ∧ w.heap.size ≤ g ∧ a.map (·.block) ≠ some g := by
          rw [hX]
          exact hkp.imp id fun ⟨g, o, e1, e2⟩ => ⟨g, o, e1, by omega, HS.out.acts.lt e2⟩
        have hsz2 : w.heap.size ≤ w2.heap.size := Nat.le_trans hszr ht2.size
        obtain ⟨V1, hV1⟩ : ∃ V1, w2.alloc (.cells #[.int .i64 kd, .int .i64 vn, .bool dn, .slice ka kn kc, .string nm, .int .u32 (mk : Int)] 30) = V1 := ⟨_, rfl⟩
        have hbl1 : Below w2.heap.size w2 V1 := by rw [← hV1]; exact (Below.refl _ _).alloc (Nat.le_refl _) _
        have hx1 : V1.heap[w2.heap.size]? = some (.cells #[.int .i64 kd, .int .i64 vn, .bool dn, .slice ka kn kc, .string nm, .int .u32 (mk : Int)] 30 (0, 0)) := by rw [← hV1]; exact heap_alloc_new _ _
        have hV1s : V1.heap.size = w2.heap.size + 1 := by rw [← hV1]; simp
        obtain ⟨V2, hV2⟩ : ∃ V2, V1.alloc (.cells #[.int .i64 kd, .int .i64 vn, .bool dn, .slice ka kn kc, .string nm, .int .u32 (mk : Int)] 30) = V2 := ⟨_, rfl⟩
        have hbl2 : Below V1.heap.size V1 V2 := by rw [← hV2]; exact (Below.refl _ _).alloc (Nat.le_refl _) _
        have hV2s : V2.heap.size = w2.heap.size + 2 := by rw [← hV2]; simp [hV1s]
        have hV2n := cells_new V1 #[.int .i64 kd, .int .i64 vn, .bool dn, .slice ka kn kc, .string nm, .int .u32 (mk : Int)] 30 (0, 0)
        rw [hV2, hV1s] at hV2n
        have hs4 : Scr w b j2 a c vs V2 := by rw [← hV2, ← hV1]; exact (hs2.alloc _).alloc _
        have hok4 : X.Ok V2 V2.heap.size := (hok.call hbl1).call hbl2
        have hx4 : V2.heap[w2.heap.size]? = some (.cells #[.int .i64 kd, .int .i64 vn, .bool dn, .slice ka kn kc, .string nm, .int .u32 (mk : Int)] 30 (0, 0)) := (hbl2.block _ (by omega)).trans hx1
        have hne4 : a.map (·.block) ≠ some w2.heap.size := hs2.acts.lt (Nat.le_refl _)
        have hB4 : w.heap.size ≤ V2.heap.size := by omega
        have hcnt : vs.length ≤ 100 := by omega
        have q1 : vs.length + 1 ≤ 9223372036854775807 := by omega
        have q2 : (vs.length + 1) * 72 ≤ 140737488355328 := by omega
        have HV := Lib.hid (And.intro hs4 (And.intro hok4 (And.intro hx4 (And.intro hne4 (And.intro hkp2 (And.intro hdr (And.intro hV2n (And.intro hV2s hX))))))))
        have HVV := Lib.hid (And.intro hV1 hV2)
        clear hV1 hV2 hV1s
        clear hs4 hok4 hx4 hne4 hkp2 hdr hV2n hX hok hkp hd2 ht2 hs2 hbl1 hbl2 hx1
        by_cases h6 : kd = 6
        · subst h6
          go_wp2_with (at_builtin; rw [HVV.out.1, HVV.out.2]; refine wpList_append_row rfl (.tmp 31) (.tmp 33) 22 rfl _ _ 30 i1 _ 6 72 Tryd.underlying22 HI.out.1 HI.out.2.1 HI.out.2.2.1 HI.out.2.2.2 rfl (by decide) w.heap.size (Below.refl _ _) hB4 a vs.length c _ rfl HV.out.1.acts.row ⟨w2.heap.size + 1, 0, none⟩ 1 1 (#[.int .i64 6, .int .i64 vn, .bool dn, .slice ka kn kc, .string nm, .int .u32 (mk : Int)] : Array Value).toList rfl rfl HV.out.2.2.2.2.2.2.1 (one6 _ _ _ _ _ _ _ _) (vs.length + 1) rfl q1 q2 ?_; intro a3 c3 w3 ho3 hg3 hb3 hat3; (have hlt4 : w2.heap.size < V2.heap.size := by omega); (have k0 : w3.cell? ⟨w2.heap.size, 0, none⟩ = some (.int .i64 6) := (World.cell?_of_block (hg3.block _ hlt4 (fun e => HV.out.2.2.2.1 e.symm))).trans (row_cell HV.out.2.2.1 rfl)); (have hs3 : Scr w b j2 a3 c3 (vs ++ [X]) w3 := HV.out.1.more hlt HV.out.2.2.2.2.2.1 HV.out.2.1 HV.out.2.2.2.2.1 hg3 (by rw [hXc]; exact ho3) hat3); (have HS3 := Lib.hid hs3); clear hs3 ho3 hg3 hb3 hat3)
          have hsz3 : w.heap.size ≤ w3.heap.size := HS3.out.turn.size
          refine (yes_any b j2 4 w3 HS3.out.deck (by omega) (by decide) (by decide)).mono ?_
          rintro e w4 ⟨⟨r2, rfl⟩, hd4, ht4⟩
          have HS4 := Lib.hid (HS3.out.step hlt ht4 hd4)
          have hsz4 : w.heap.size ≤ w4.heap.size := HS4.out.turn.size
          clear hd4 ht4
          cases r2 with
          | true =>
            go_wp2_with fail
            refine ⟨⟨m - 1, vs ++ [X], a3, c3, j2 + 1, by simp, by congr 1; omega, by simp; omega, by omega, HS4.out⟩, by simp only [intOf]; omega⟩
          | false =>
            have hrow5 := (HS4.out.alloc (.cells #[.int .i64 4, .int .i64 0, .bool false, .slice none 0 0, .string ⟨#[]⟩, .int .u32 0] 30)).row_snoc
            have q3 := (two_more hcnt).1
            have q4 := (two_more hcnt).2
            go_wp2_with (at_builtin; refine wpList_append_row rfl (.tmp 43) (.tmp 45) 22 rfl _ _ 30 i1 _ 6 72 Tryd.underlying22 HI.out.1 HI.out.2.1 HI.out.2.2.1 HI.out.2.2.2 rfl (by decide) w.heap.size (Below.refl _ _) (by rw [World.size_alloc]; omega) a3 (vs.length + 1) c3 _ rfl hrow5 ⟨w4.heap.size, 0, none⟩ 1 1 (#[.int .i64 4, .int .i64 0, .bool false, .slice none 0 0, .string ⟨#[]⟩, .int .u32 0] : Array Value).toList rfl rfl (cells_new w4 _ _ _) (one6 _ _ _ _ _ _ _ _) (vs.length + 1 + 1) rfl q3 q4 ?_; intro a5 c5 w5 ho5 hg5 hb5 hat5)
            have hs5 := (HS4.out.alloc (.cells #[.int .i64 4, .int .i64 0, .bool false, .slice none 0 0, .string ⟨#[]⟩, .int .u32 0] 30)).more (X := ⟨⟨4, 0, false, none, 0, 0, ⟨#[]⟩, 0⟩, []⟩) hlt (.inl ⟨by decide, Nat.zero_le _⟩) (bare_new _ ⟨by simp, by simp⟩ ⟨by simp, by simp⟩ rfl (by show (⟨#[]⟩ : ByteArray).size ≤ 100; decide) (by show 0 < 4294967296; decide)) (.inl rfl) hg5 (by rw [List.length_append, List.length_singleton]; exact ho5) hat5
            refine ⟨⟨m - 1, vs ++ [X] ++ [⟨⟨4, 0, false, none, 0, 0, ⟨#[]⟩, 0⟩, []⟩], a5, c5, j2 + 1, by simp, by congr 1; omega, by simp; omega, by omega, hs5⟩, by simp only [intOf]; omega⟩
        · have h6' : (kd == 6) = false := by simp [h6]
          go_wp2_with (at_builtin; rw [HVV.out.1, HVV.out.2]; refine wpList_append_row rfl (.tmp 31) (.tmp 33) 22 rfl _ _ 30 i1 _ 6 72 Tryd.underlying22 HI.out.1 HI.out.2.1 HI.out.2.2.1 HI.out.2.2.2 rfl (by decide) w.heap.size (Below.refl _ _) hB4 a vs.length c _ rfl HV.out.1.acts.row ⟨w2.heap.size + 1, 0, none⟩ 1 1 (#[.int .i64 kd, .int .i64 vn, .bool dn, .slice ka kn kc, .string nm, .int .u32 (mk : Int)] : Array Value).toList rfl rfl HV.out.2.2.2.2.2.2.1 (one6 _ _ _ _ _ _ _ _) (vs.length + 1) rfl q1 q2 ?_; intro a3 c3 w3 ho3 hg3 hb3 hat3; (have hlt4 : w2.heap.size < V2.heap.size := by omega); (have k0 : w3.cell? ⟨w2.heap.size, 0, none⟩ = some (.int .i64 kd) := (World.cell?_of_block (hg3.block _ hlt4 (fun e => HV.out.2.2.2.1 e.symm))).trans (row_cell HV.out.2.2.1 rfl)); (have hs3 : Scr w b j2 a3 c3 (vs ++ [X]) w3 := HV.out.1.more hlt HV.out.2.2.2.2.2.1 HV.out.2.1 HV.out.2.2.2.2.1 hg3 (by rw [hXc]; exact ho3) hat3); (have HS3 := Lib.hid hs3); clear hs3 ho3 hg3 hb3 hat3)
          refine ⟨⟨m - 1, vs ++ [X], a3, c3, j2, by simp, by congr 1; omega, by simp; omega, by omega, HS3.out⟩, by simp only [intOf]; omega⟩
end Go.Proofs.YtifdmgloheampaaDoor
namespace Go.Proofs.YtifdmgloheampaaDoor
open Go.RowKit DiskM ScriptM

theorem glue_sum : ∀ xs : List (List UInt8), xs ≠ [] → (glue xs).length + 1 = (xs.map fun x => x.length + 1).sum
  | [], h => absurd rfl h
  | [x], _ => by simp [glue]
  | x :: y :: r, _ => by
    have h2 := glue_sum (y :: r) (by simp)
    show (x ++ 32 :: glue (y :: r)).length + 1 = _
    rw [List.map_cons, List.sum_cons, ← h2]
    simp only [List.length_append, List.length_cons]
    omega
theorem keep_sum : ∀ l : List UInt8, ((l.map fun k => dec k.toNat).map fun x => x.length + 1).sum ≤ 4 * l.length
  | [] => by simp
  | k :: r => by
    have h1 := keep_sum r
    have h2 := k.toNat_lt
    have h3 := dec_len 3 k.toNat (by omega) (by omega)
    simp only [List.map_cons, List.sum_cons, List.length_cons]
    omega
theorem line_len40 {a : ScriptM.Act} (h : right a = true) (hm : a.mask < 4294967296) (hk4 : a.keep.length ≤ 4) : (ScriptM.line a).length ≤ 40 := by
  obtain ⟨r1, r2, r3, r4, r5⟩ := right_parts h
  have hk := right_kind h
  have hs : (ScriptM.line a).length = ((fields a).map fun x => x.length + 1).sum := by
    rw [← glue_sum (fields a) (by simp [fields])]
    simp [ScriptM.line, shown]
  have hK := keep_sum a.keep
  have hx := hexD_len 8 a.mask (by omega) (by omega)
  have hw : (if a.done then doneW else lostW).length = 4 := by split <;> rfl
  rw [hs]
  unfold fields
  simp only [List.cons_append, List.map_cons, List.map_append, List.sum_cons, List.sum_append]
  have hks : a.kind = 1 ∨ a.kind = 2 ∨ a.kind = 3 ∨ a.kind = 4 ∨ a.kind = 5 ∨ a.kind = 6 ∨ a.kind = 7 ∨ a.kind = 8 := by omega
  rcases hks with e | e | e | e | e | e | e | e
  · have := dec_len 6 a.n.toNat (by omega) (by have := r2 (by omega); omega)
    simp [e, word, hasN, r5] at hK ⊢; omega
  · have := dec_len 6 a.n.toNat (by omega) (by have := r2 (by omega); omega)
    simp [e, word, hasN, r5] at hK ⊢; omega
  · have := dec_len 6 a.n.toNat (by omega) (by have := r2 (by omega); omega)
    simp [e, word, hasN, r5] at hK ⊢; omega
  · simp [e, word, hasN, r5] at hK ⊢
  · have := dec_len 6 a.n.toNat (by omega) (by have := r3 (by omega); omega)
    simp [e, word, hasN, r5, hw] at hK ⊢; omega
  · simp [e, word, hasN] at hK ⊢; omega
  · have := dec_len 6 a.n.toNat (by omega) (by have := r2 (by omega); omega)
    simp [e, word, hasN, r5] at hK ⊢; omega
  · have h1 := r4 e
    have := dec_len 6 a.n.toNat (by omega) (by omega)
    simp [e, word, hasN, r5] at hK ⊢; omega
theorem lines_len : ∀ (vs : List ActV), (∀ v ∈ vs, right v.abs = true ∧ v.keep.length ≤ 4 ∧ v.x.mask < 4294967296) → ((vs.map ActV.abs).map ScriptM.line).flatten.length ≤ 40 * vs.length
  | [], _ => by simp
  | v :: r, h => by
    have h1 := lines_len r fun x hx => h x (by simp [hx])
    obtain ⟨g1, g2, g3⟩ := h v (by simp)
    have h2 := line_len40 (a := v.abs) g1 g3 g2
    simp only [List.map_cons, List.flatten_cons, List.length_append, List.length_cons]
    omega
/-- a drawn script: either all its acts are right, or one is a flip without a mask, and it has no text -/
theorem drawn_right {vs : List ActV} (h : ∀ v ∈ vs, DrawnV v) (hf : ∀ v ∈ vs, ¬ (v.x.kind = 8 ∧ v.x.mask = 0)) : ∀ v ∈ vs, right v.abs = true ∧ v.keep.length ≤ 4 := fun v hv => (h v hv).resolve_right (hf v hv)
theorem flip_wrong {v : ActV} (h : v.x.kind = 8 ∧ v.x.mask = 0) : right v.abs = false := by
  have e1 : v.abs.kind = 8 := h.1
  have e2 : v.abs.mask = 0 := h.2
  unfold right
  simp [e1, e2]
theorem show_len {vs : List ActV} (h : ∀ v ∈ vs, DrawnV v) (hm : ∀ v ∈ vs, v.x.mask < 4294967296) : (showM (vs.map ActV.abs)).length ≤ 40 * vs.length := by
  by_cases hf : ∀ v ∈ vs, ¬ (v.x.kind = 8 ∧ v.x.mask = 0)
  · have hr := drawn_right h hf
    have := lines_len vs fun v hv => ⟨(hr v hv).1, (hr v hv).2, hm v hv⟩
    unfold showM
    split
    · exact this
    · simp
  · have : ∃ v ∈ vs, v.x.kind = 8 ∧ v.x.mask = 0 := Classical.byContradiction fun hn => hf fun v hv hk => hn ⟨v, hv, hk⟩
    obtain ⟨v, hv, hk⟩ := this
    obtain ⟨j, hj⟩ := List.mem_iff_getElem?.1 hv
    rw [show_false vs j v hj (flip_wrong hk)]; simp
theorem Scr.masks {w V : World} {b j : Nat} {a : Option Addr} {c : Nat} {vs : List ActV} (h : Scr w b j a c vs V) : ∀ v ∈ vs, v.x.mask < 4294967296 := fun v hv => (h.acts.each v hv).1.mask
theorem Scr.below {w0 w V : World} {b j : Nat} {a : Option Addr} {c : Nat} {vs : List ActV} (h : Scr w b j a c vs V) (hb : Below w0.heap.size w0 w) (hd : w0.heap.size ≤ b) : Below w0.heap.size w0 V := Below.turn hb h.turn hb.size fun k e => by have : k = b := e; omega
theorem sv_size (l : List UInt8) : (⟨l.toArray⟩ : ByteArray).size = l.length := by simp [ByteArray.size]
end Go.Proofs.YtifdmgloheampaaDoor
