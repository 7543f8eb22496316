/- The deck of drawn numbers: Of, Next, num, Num. Condition: few numbers have been drawn. -/
import Derived.Test.YtmocmkfpblakbaaGreatDoorRefI
import Derived.Test.YtmocmkfpblakbaaGreatDoorTurn
import Derived.BigQuiet
import Derived.Deep.CutBlock
import Derived.Deep.DeepCutAuto
namespace Go.Proofs.YtmocmkfpblakbaaGreatDoor
open Go.RowKit WordsM

def uv (n : Nat) : Value := .int .u64 (n : Int)
/-- a slice that begins at a reads as these numbers, below block B -/
def RdU (w : World) (B : Nat) (a : Option Addr) (ls : List Nat) : Prop :=
  ls = [] ∨ ∃ b o, a = some ⟨b, o, none⟩ ∧ b < B ∧ ∀ (j : Nat) x, ls[j]? = some x → w.cell? ⟨b, o + j, none⟩ = some (uv x)
theorem RdU.keep {w w' : World} {B : Nat} {a : Option Addr} {ls : List Nat} (h : RdU w B a ls) (hk : ∀ p : Addr, p.block < B → w'.cell? p = w.cell? p) : RdU w' B a ls := by
  rcases h with rfl | ⟨b, o, rfl, hb, hc⟩
  · exact .inl rfl
  · exact .inr ⟨b, o, rfl, hb, fun j x hx => (hk _ hb).trans (hc j x hx)⟩
theorem RdU.more {w : World} {B B' : Nat} {a : Option Addr} {ls : List Nat} (h : RdU w B a ls) (hB : B ≤ B') : RdU w B' a ls := by
  rcases h with rfl | ⟨b, o, rfl, hb, hc⟩
  · exact .inl rfl
  · exact .inr ⟨b, o, rfl, by omega, hc⟩
/-- a deck at block b, of which i numbers have been drawn -/
def Deck (w : World) (b i : Nat) : Prop := ∃ a n c ls, w.heap[b]? = some (.cells #[.slice a n c, .int .i64 (i : Int)] 42 (0, 0)) ∧ ls.length = n ∧ n ≤ 9223372036854775807 ∧ RdU w b a ls ∧ ∀ x ∈ ls, x < 18446744073709551616
section
variable {w w' : World} {b i : Nat} {fp : Nat → Prop}
theorem Deck.lt (h : Deck w b i) : b < w.heap.size := by
  obtain ⟨a, n, c, ls, hh, _⟩ := h
  exact (Array.getElem?_eq_some_iff.1 hh).1
theorem Deck.turn (h : Deck w b i) (ht : Turn fp w w') (hn : ∀ k, k ≤ b → ¬ fp k) : Deck w' b i := by
  have hb := h.lt
  obtain ⟨a, n, c, ls, hh, h1, h2, h3, h4⟩ := h
  exact ⟨a, n, c, ls, (ht.block b hb (hn b (Nat.le_refl _))).trans hh, h1, h2, h3.keep fun p hp => ht.cell (by omega) (hn _ (by omega)), h4⟩
theorem Deck.call (h : Deck w b i) (hb : Below w.heap.size w w') : Deck w' b i := h.turn (Turn.of_below hb fun _ => False) fun _ _ h => h
end
set_option maxRecDepth 100000 in
theorem decknext_any (b i : Nat) (w : World) (h : Deck w b i) (hi : i ≤ 1000000) :
    Calls Tryz.prog 15 #[.pointer (some ⟨b, 0, none⟩)] w fun e w' => (∃ x : Nat, x < 18446744073709551616 ∧ e = .returned (.int .u64 (x : Int))) ∧ Deck w' b (i + 1) ∧ Turn (· = b) w w' := by
  obtain ⟨a, n, c, ls, hh, hln, hn, hrd, hx⟩ := h
  have k0 : w.cell? ⟨b, 0, none⟩ = some (.slice a n c) := by rw [cell_of_row _ _ _ _ _ _ hh]; rfl
  have k1 : w.cell? ⟨b, 1, none⟩ = some (.int .i64 (i : Int)) := by rw [cell_of_row _ _ _ _ _ _ hh]; rfl
  have f1 : w.frozen? ⟨b, 1, none⟩ = false := frozen_of_row _ _ _ _ _ hh
  have hfin : ∀ V : World, V.heap = w.heap → V.os = w.os → V.tape = w.tape → V.output = w.output → Deck (V.setCell ⟨b, 1, none⟩ (.int .i64 ((i : Int) + 1))) b (i + 1) ∧ Turn (· = b) w (V.setCell ⟨b, 1, none⟩ (.int .i64 ((i : Int) + 1))) := by
    intro V h1 h2 h3 h4
    have hV : V.heap[b]? = some (.cells #[.slice a n c, .int .i64 (i : Int)] 42 (0, 0)) := by rw [h1]; exact hh
    refine ⟨⟨a, n, c, ls, ?_, hln, hn, hrd.keep fun p hp => ?_, hx⟩, ?_⟩
    · rw [heap_setCell_same _ _ _ _ _ _ hV]; rfl
    · rw [World.cell?_setCell_other _ _ _ _ (fun e => by subst e; exact Nat.lt_irrefl _ hp)]
      exact World.cell?_of_block (by rw [h1])
    · have ht := Turn.setCell (fun k => k = b) V (p := ⟨b, 1, none⟩) rfl (.int .i64 ((i : Int) + 1))
      exact ⟨ht.os.trans h2, ht.tape.trans h3, ht.output.trans h4, by rw [← h1]; exact ht.size, fun k hk hn => by rw [← h1]; exact ht.block k (by rw [h1]; exact hk) hn⟩
  have HF := Lib.hid hfin
  have HR := Lib.hid (And.intro hrd hx)
  clear hfin hh hrd hx
  by_cases hlt : i < n
  · have hlt' : (i : Int) < (n : Int) := by omega
    obtain ⟨x, hxx⟩ : ∃ x, ls[i]? = some x := ⟨_, List.getElem?_eq_getElem (by omega)⟩
    obtain ⟨y, o, rfl, hy, hc⟩ : ∃ y o, a = some ⟨y, o, none⟩ ∧ y < b ∧ w.cell? ⟨y, o + i, none⟩ = some (.int .u64 (x : Int)) := by
      rcases HR.out.1 with rfl | ⟨y, o, e, hy, hc⟩
      · simp at hxx
      · exact ⟨y, o, e, hy, hc i x hxx⟩
    have hx64 := HR.out.2 x (List.mem_of_getElem? hxx)
    clear hxx
    go_enter Tryz.func15, Tryz.ntmps15
    go_wp2_with fail
    go_quiet (fail)
    go_wp2_with fail
    go_quiet (fail)
    go_wp2_with fail
    go_ret
    exact ⟨⟨x, hx64, rfl⟩, HF.out _ rfl rfl rfl rfl⟩
  · have hlt' : ¬ ((i : Int) < (n : Int)) := by omega
    go_enter Tryz.func15, Tryz.ntmps15
    go_wp2_with fail
    go_quiet (fail)
    go_wp2_with fail
    go_ret
    exact ⟨⟨0, by omega, rfl⟩, HF.out _ rfl rfl rfl rfl⟩
set_option maxRecDepth 100000 in
theorem deckof_any (a : Option Addr) (n c : Nat) (ls : List Nat) (w : World) (hl : ls.length = n) (hn : n ≤ 9223372036854775807) (h : RdU w w.heap.size a ls) (hx : ∀ x ∈ ls, x < 18446744073709551616) :
    Calls Tryz.prog 7 #[.slice a n c] w fun e w' => e = .returned (.pointer (some ⟨w.heap.size, 0, none⟩)) ∧ Deck w' w.heap.size 0 ∧ Below w.heap.size w w' := by
  have H := Lib.hid h
  clear h
  go_enter Tryz.func7, Tryz.ntmps7
  go_wp2_with fail
  go_ret
  exact ⟨rfl, ⟨a, n, c, ls, heap_alloc_new _ _, hl, hn, H.out.keep fun p hp => World.cell?_alloc_lt _ _ p hp, hx⟩, (Below.refl _ _).alloc (Nat.le_refl _) _⟩
theorem make_isnum {neg : Bool} {v : Nat} {exp : Int} {neg' : Bool} {e' : Int} {L : List Nat} {er : Int} (h : MakeOut neg v exp neg' e' L er) : IsNum neg' e' L := by
  rcases h with ⟨_, rfl, rfl, rfl, _⟩ | ⟨z, _, ⟨_, rfl, rfl, rfl, _⟩ | ⟨_, _, h, rfl, rfl, rfl, _⟩⟩
  · simp [IsNum]
  · simp [IsNum]
  · exact h
/-- a right number, its words lie -/
def SeatOut (e : Ending) (w' : World) : Prop := ∃ neg' e' a' n' c' L, e = .returned (.agg #[.bool neg', .int .i64 e', .slice a' n' c']) ∧ IsNum neg' e' L ∧ WordsIn w' a' n' c' L
set_option maxRecDepth 100000 in
set_option maxHeartbeats 4000000 in
theorem seatnum_any (neg : Bool) (a : Option Addr) (n c : Nat) (ls : List Nat) (exp : Int) (w : World) (h : WordsIn w a n c ls) (hn : n ≤ 100000) (he : -1000000000 ≤ exp) (he2 : exp ≤ 1000000000) :
    Calls Tryz.prog 16 #[.bool neg, .slice a n c, .int .i64 exp] w fun e w' => SeatOut e w' ∧ Below w.heap.size w w' := by
  have hB0 : ∀ o, Below w.heap.size w (w.alloc o) := fun o => (Below.refl _ _).alloc (Nat.le_refl _) _
  have hl0 := box_lt w (.cells #[.bool false, .int .i64 0, .slice none 0 0] 24)
  have hN0 := NumBox.new w (.bool false) (.int .i64 0) (.slice none 0 0) 24
  have hm := refmake_any neg a n c ls exp (w.alloc (.cells #[.bool false, .int .i64 0, .slice none 0 0] 24)) (h.step (hB0 _)) hn he he2
  have HM := Lib.hid (And.intro hm hN0)
  clear hm hN0 h
  go_enter Tryz.func16, Tryz.ntmps16
  go_wp2_with (refine HM.out.1.mono ?_; rintro e w1 ⟨neg2, e2, a2, n2, c2, L, er, rfl, hmo, hW, hb1⟩;
               have hba : Below w1.heap.size w1 (w1.alloc (.cells #[.bool neg2, .int .i64 e2, .slice a2 n2 c2] 24)) := (Below.refl _ _).alloc (Nat.le_refl _) _;
               have hbb := Below.next0 hb1 hba;
               have hNN := HM.out.2.step hbb hl0; have hc0 := hNN.c0; have hc1 := hNN.c1; have hc2 := hNN.c2; have hf0 := hNN.f0; have hf1 := hNN.f1; have hf2 := hNN.f2; have hd1 := hNN.d1 (.bool neg2); have hd2 := hNN.d2 (.bool neg2) (.int .i64 e2);
               have hGN := NumBox.new w1 (.bool neg2) (.int .i64 e2) (.slice a2 n2 c2) 24; have hg0 := hGN.c0; have hg1 := hGN.c1; have hg2 := hGN.c2;
               have HB1 := Lib.hid (And.intro hNN (And.intro (Below.next0 (hB0 _) hbb) (And.intro (hW.step hba) hmo))); clear hNN hGN hba hbb hb1 hW hmo)
  have hS5 := HB1.out.1.store (.bool neg2) (.int .i64 e2) (.slice a2 n2 c2)
  have k0 := hS5.c0
  have k1 := hS5.c1
  have k2 := hS5.c2
  have hb6 := NumBox.below HB1.out.2.1 (Nat.le_refl _) (.bool neg2) (.int .i64 e2) (.slice a2 n2 c2)
  have hWw := HB1.out.2.2.1
  have hW6 : WordsIn _ a2 n2 c2 L := ⟨hWw.len, hWw.cap, hWw.most, hWw.low, (hWw.rd.store3 HB1.out.1 (fun _ => by simp [nv]) (fun _ => by simp [nv]) (fun _ => by simp [nv]) (.bool neg2) (.int .i64 e2) (.slice a2 n2 c2)).more (box_size _ _ _ _ _)⟩
  clear hS5 hc0 hc1 hc2 hf0 hf1 hf2 hd1 hd2 hWw hg0 hg1 hg2
  generalize World.setCell _ _ _ = W5 at k0 k1 k2 hb6 hW6 ⊢
  refine ⟨rfl, .agg #[.bool neg2, .int .i64 e2, .slice a2 n2 c2], by simp [results, go_sem, k0, k1, k2], ⟨neg2, e2, a2, n2, c2, L, rfl, make_isnum HB1.out.2.2.2, hW6⟩, hb6⟩
theorem Turn.newSet {fp : Nat → Prop} {w w' : World} (h : Turn fp w w') {p : Addr} (hp : w.heap.size ≤ p.block) (v : Value) : Turn fp w (w'.setCell p v) :=
  ⟨h.os, h.tape, h.output, by rw [World.size_setCell]; exact h.size, fun k hk hn => (Below.heap_setCell _ _ _ _ (by omega)).trans (h.block k hk hn)⟩
theorem NumBox.turn {w w' : World} {b g : Nat} {v0 v1 v2 : Value} (h : NumBox w g v0 v1 v2) (ht : Turn (· = b) w w') (hg : g < w.heap.size) (hne : g ≠ b) : NumBox w' g v0 v1 v2 :=
  ⟨(ht.cell (p := ⟨g, 0, none⟩) hg hne).trans h.c0, (ht.cell (p := ⟨g, 1, none⟩) hg hne).trans h.c1, (ht.cell (p := ⟨g, 2, none⟩) hg hne).trans h.c2, (ht.frozen (p := ⟨g, 0, none⟩) hg hne).trans h.f0, (ht.frozen (p := ⟨g, 1, none⟩) hg hne).trans h.f1, (ht.frozen (p := ⟨g, 2, none⟩) hg hne).trans h.f2⟩
theorem and_u64 (a b : Nat) (ha : a < 18446744073709551616) (hb : b < 18446744073709551616) : ∃ p : Nat, bits .and .u64 (a : Int) (b : Int) = (p : Int) ∧ p < 18446744073709551616 := ⟨_, u64_and_nat a b ha hb, Nat.and_lt_two_pow (n := 64) _ hb⟩
theorem or_u64 (a b : Nat) (ha : a < 18446744073709551616) (hb : b < 18446744073709551616) : ∃ p : Nat, bits .or .u64 (a : Int) (b : Int) = (p : Int) ∧ p < 18446744073709551616 := ⟨_, u64_or_nat a b ha hb, Nat.or_lt_two_pow (n := 64) ha hb⟩
theorem words_d (w : World) (m : Nat) (hm : m < 18446744073709551616) (T : TypeId) : WordsIn (w.alloc (.cells #[.int .u64 (m : Int)] T)) (some ⟨w.heap.size, 0, none⟩) 1 1 [m] :=
  ⟨rfl, Nat.le_refl _, by omega, fun x hx => by rw [List.mem_singleton] at hx; subst hx; exact hm, .inr ⟨w.heap.size, 0, rfl, box_lt _ _, fun j x hx => by
    cases j with
    | zero => simp only [List.getElem?_cons_zero, Option.some.injEq] at hx; subst hx; rw [cell_of_row _ _ _ _ _ _ (heap_alloc_new _ _)]; rfl
    | succ j => simp at hx⟩⟩
theorem words_2 (w : World) (p q : Nat) (hp : p < 18446744073709551616) (hq : q < 18446744073709551616) (T : TypeId) : WordsIn (w.alloc (.cells #[.int .u64 (p : Int), .int .u64 (q : Int)] T)) (some ⟨w.heap.size, 0, none⟩) 2 2 [p, q] :=
  ⟨rfl, Nat.le_refl _, by omega, fun x hx => by simp at hx; rcases hx with rfl | rfl <;> assumption, .inr ⟨w.heap.size, 0, rfl, box_lt _ _, fun j x hx => by
    rw [cell_of_row _ _ _ _ _ _ (heap_alloc_new _ _)]
    match j, hx with
    | 0, hx => simp at hx; subst hx; rfl
    | 1, hx => simp at hx; subst hx; rfl
    | j + 2, hx => simp at hx⟩⟩
theorem words_3 (w : World) (p q r : Nat) (hp : p < 18446744073709551616) (hq : q < 18446744073709551616) (hr : r < 18446744073709551616) (T : TypeId) : WordsIn (w.alloc (.cells #[.int .u64 (p : Int), .int .u64 (q : Int), .int .u64 (r : Int)] T)) (some ⟨w.heap.size, 0, none⟩) 3 3 [p, q, r] :=
  ⟨rfl, Nat.le_refl _, by omega, fun x hx => by simp at hx; rcases hx with rfl | rfl | rfl <;> assumption, .inr ⟨w.heap.size, 0, rfl, box_lt _ _, fun j x hx => by
    rw [cell_of_row _ _ _ _ _ _ (heap_alloc_new _ _)]
    match j, hx with
    | 0, hx => simp at hx; subst hx; rfl
    | 1, hx => simp at hx; subst hx; rfl
    | 2, hx => simp at hx; subst hx; rfl
    | j + 3, hx => simp at hx⟩⟩
set_option maxRecDepth 100000 in
set_option maxHeartbeats 8000000 in
theorem decknum_any (b i : Nat) (w : World) (h : Deck w b i) (hi : i ≤ 1000) :
    Calls Tryz.prog 8 #[.pointer (some ⟨b, 0, none⟩)] w fun e w' => SeatOut e w' ∧ Turn (· = b) w w' := by
  have hB0 : ∀ o, Below w.heap.size w (w.alloc o) := fun o => (Below.refl _ _).alloc (Nat.le_refl _) _
  have hl0 := box_lt w (.cells #[.bool false, .int .i64 0, .slice none 0 0] 24)
  have hN0 := NumBox.new w (.bool false) (.int .i64 0) (.slice none 0 0) 24
  have hbl := h.lt
  have hn1 := decknext_any b i (w.alloc (.cells #[.bool false, .int .i64 0, .slice none 0 0] 24)) (h.call (hB0 _)) (by omega)
  have HM := Lib.hid (And.intro hn1 hN0)
  clear hn1 hN0 h
  go_enter Tryz.func8, Tryz.ntmps8
  go_upto_region 1 with fail
  go_cut [3] (fun v wx => ∃ x : Nat, x < 18446744073709551616 ∧ v = .int .u64 (x : Int) ∧ Deck wx b (i + 1) ∧ Turn (· = b) (w.alloc (.cells #[.bool false, .int .i64 0, .slice none 0 0] 24)) wx)
  case first =>
    go_wp2_with (refine HM.out.1.mono ?_; rintro e w1 ⟨⟨x, hx, rfl⟩, hd1, ht1⟩; have HD1 := Lib.hid (And.intro hd1 ht1); clear hd1 ht1)
    go_meet
    exact ⟨x, hx, rfl, HD1.out.1, HD1.out.2⟩
  obtain ⟨x, hx, rfl, hd1, ht1⟩ := hcut
  have HD1 := Lib.hid (And.intro hd1 ht1)
  clear hd1 ht1
  obtain ⟨m, hm⟩ : ∃ m, x % 2 = m := ⟨_, rfl⟩
  have hand : bits .and .u64 (x : Int) 1 = (m : Int) := by rw [show (1 : Int) = ((1 : Nat) : Int) from rfl, u64_and_nat x 1 hx (by decide), nat_mask1, hm]
  obtain ⟨neg, hneg⟩ : ∃ neg, ((m : Int) == 1) = neg := ⟨_, rfl⟩
  obtain ⟨e0, he0, he1, he2⟩ : ∃ e0 : Int, (x : Int) / 2 % 41 = e0 ∧ 0 ≤ e0 ∧ e0 ≤ 40 := ⟨_, rfl, by omega, by omega⟩
  go_upto_region 2 with fail
  go_cut [4, 5] (fun nv ev wx => nv = .bool neg ∧ ev = .int .i64 (e0 - 32) ∧ wc = wx)
  case first =>
    go_wp2_with fail
    go_meet
    exact ⟨rfl, rfl, rfl⟩
  obtain ⟨rfl, rfl, rfl⟩ := hcut
  clear hand hneg he0 hm
  have hNc := HM.out.2.turn HD1.out.2 hl0 (by omega)
  have hlc := Nat.lt_of_lt_of_le hl0 HD1.out.2.size
  have htc : Turn (· = b) w wc := (Turn.of_below (hB0 _) _).trans0 HD1.out.2
  have HN := Lib.hid (And.intro hNc (And.intro hlc htc))
  clear hNc hlc htc
  obtain ⟨k, hk⟩ : ∃ k, x / 128 % 8 = k := ⟨_, rfl⟩
  have hkI : (x : Int) / 128 % 8 = (k : Int) := by omega
  have hk8 : k < 8 := by omega
  clear hk
  by_cases hk0 : k = 0
  · subst hk0
    obtain ⟨y, hy⟩ : ∃ y, x / 1024 = y := ⟨_, rfl⟩
    have hyI : (x : Int) / 1024 = (y : Int) := by omega
    obtain ⟨p, hp, hpl⟩ := and_u64 y 31 (by omega) (by decide)
    have hpI : bits .and .u64 (y : Int) 31 = (p : Int) := hp
    clear hy hp
    go_wp2_with (first
      | (refine (seatnum_any neg (some ⟨wc.heap.size, 0, none⟩) 1 1 [p] (e0 - 32) (wc.alloc (.cells #[.int .u64 (p : Int)] 40)) (words_d wc p (hpl) 40) (by decide) (by omega) (by omega)).mono ?_; rintro e w2 ⟨⟨neg2, e2, a2, n2, c2, L, rfl, hnum, hW⟩, hb2⟩; have hbx := Below.next0 ((Below.refl wc.heap.size wc).alloc (Nat.le_refl _) (.cells #[.int .u64 (p : Int)] 40)) hb2; have hNN := HN.out.1.step hbx HN.out.2.1; have hc0 := hNN.c0; have hc1 := hNN.c1; have hc2 := hNN.c2; have hf0 := hNN.f0; have hf1 := hNN.f1; have hf2 := hNN.f2; have hd1' := hNN.d1 (.bool neg2); have hd2' := hNN.d2 (.bool neg2) (.int .i64 e2); have HB2 := Lib.hid (And.intro hNN (And.intro (HN.out.2.2.trans0 (Turn.of_below hbx _)) (And.intro hW hnum))); clear hNN hbx hW hnum hb2))
    have hS5 := HB2.out.1.store (.bool neg2) (.int .i64 e2) (.slice a2 n2 c2)
    have k0 := hS5.c0
    have k1 := hS5.c1
    have k2 := hS5.c2
    have ht6 := ((HB2.out.2.1.newSet (p := ⟨w.heap.size, 0, none⟩) (Nat.le_refl _) (.bool neg2)).newSet (p := ⟨w.heap.size, 1, none⟩) (Nat.le_refl _) (.int .i64 e2)).newSet (p := ⟨w.heap.size, 2, none⟩) (Nat.le_refl _) (.slice a2 n2 c2)
    have hWw := HB2.out.2.2.1
    have hW6 : WordsIn _ a2 n2 c2 L := ⟨hWw.len, hWw.cap, hWw.most, hWw.low, (hWw.rd.store3 HB2.out.1 (fun _ => by simp [nv]) (fun _ => by simp [nv]) (fun _ => by simp [nv]) (.bool neg2) (.int .i64 e2) (.slice a2 n2 c2)).more (box_size _ _ _ _ _)⟩
    clear hS5 hc0 hc1 hc2 hf0 hf1 hf2 hd1' hd2' hWw
    generalize World.setCell _ _ _ = W5 at k0 k1 k2 ht6 hW6 ⊢
    refine ⟨rfl, .agg #[.bool neg2, .int .i64 e2, .slice a2 n2 c2], by simp [results, go_sem, k0, k1, k2], ⟨⟨neg2, e2, a2, n2, c2, L, rfl, HB2.out.2.2.2, hW6⟩, ht6⟩⟩
  · have hk0I : ((k : Int) == 0) = false := by rw [beq_eq_false_iff_ne]; omega
    by_cases hk1 : k = 1
    · skip
      subst hk1
      go_wp2_with (first
        | (refine (decknext_any b (i + 1) wc HD1.out.1 (by omega)).mono ?_; rintro e wA ⟨⟨y1, hy1, rfl⟩, hdk, htk⟩; have HDA := Lib.hid hdk; have HNA := Lib.hid (And.intro (HN.out.1.turn htk HN.out.2.1 (by omega)) (And.intro (Nat.lt_of_lt_of_le HN.out.2.1 htk.size) (HN.out.2.2.trans0 htk))); clear hdk htk)
        | (refine (decknext_any b (i + 1 + 1) wA HDA.out (by omega)).mono ?_; rintro e wB ⟨⟨y2, hy2, rfl⟩, hdk, htk⟩; have HDB := Lib.hid hdk; have HNB := Lib.hid (And.intro (HNA.out.1.turn htk HNA.out.2.1 (by omega)) (And.intro (Nat.lt_of_lt_of_le HNA.out.2.1 htk.size) (HNA.out.2.2.trans0 htk))); clear hdk htk)
        | (refine (decknext_any b (i + 1 + 1 + 1) wB HDB.out (by omega)).mono ?_; rintro e wC ⟨⟨y3, hy3, rfl⟩, hdk, htk⟩; have HDC := Lib.hid hdk; have HNC := Lib.hid (And.intro (HNB.out.1.turn htk HNB.out.2.1 (by omega)) (And.intro (Nat.lt_of_lt_of_le HNB.out.2.1 htk.size) (HNB.out.2.2.trans0 htk))); clear hdk htk)
        | (refine (seatnum_any neg (some ⟨wC.heap.size, 0, none⟩) 3 3 [y1, y2, y3] (e0 - 32 - 100) (wC.alloc (.cells #[.int .u64 (y1 : Int), .int .u64 (y2 : Int), .int .u64 (y3 : Int)] 40)) (words_3 wC y1 y2 y3 hy1 hy2 hy3 40) (by decide) (by omega) (by omega)).mono ?_; rintro e w2 ⟨⟨neg2, e2, a2, n2, c2, L, rfl, hnum, hW⟩, hb2⟩; have hbx := Below.next0 ((Below.refl wC.heap.size wC).alloc (Nat.le_refl _) (.cells #[.int .u64 (y1 : Int), .int .u64 (y2 : Int), .int .u64 (y3 : Int)] 40)) hb2; have hNN := HNC.out.1.step hbx HNC.out.2.1; have hc0 := hNN.c0; have hc1 := hNN.c1; have hc2 := hNN.c2; have hf0 := hNN.f0; have hf1 := hNN.f1; have hf2 := hNN.f2; have hd1' := hNN.d1 (.bool neg2); have hd2' := hNN.d2 (.bool neg2) (.int .i64 e2); have HB2 := Lib.hid (And.intro hNN (And.intro (HNC.out.2.2.trans0 (Turn.of_below hbx _)) (And.intro hW hnum))); clear hNN hbx hW hnum hb2))
      have hS5 := HB2.out.1.store (.bool neg2) (.int .i64 e2) (.slice a2 n2 c2)
      have k0 := hS5.c0
      have k1 := hS5.c1
      have k2 := hS5.c2
      have ht6 := ((HB2.out.2.1.newSet (p := ⟨w.heap.size, 0, none⟩) (Nat.le_refl _) (.bool neg2)).newSet (p := ⟨w.heap.size, 1, none⟩) (Nat.le_refl _) (.int .i64 e2)).newSet (p := ⟨w.heap.size, 2, none⟩) (Nat.le_refl _) (.slice a2 n2 c2)
      have hWw := HB2.out.2.2.1
      have hW6 : WordsIn _ a2 n2 c2 L := ⟨hWw.len, hWw.cap, hWw.most, hWw.low, (hWw.rd.store3 HB2.out.1 (fun _ => by simp [nv]) (fun _ => by simp [nv]) (fun _ => by simp [nv]) (.bool neg2) (.int .i64 e2) (.slice a2 n2 c2)).more (box_size _ _ _ _ _)⟩
      clear hS5 hc0 hc1 hc2 hf0 hf1 hf2 hd1' hd2' hWw
      generalize World.setCell _ _ _ = W5 at k0 k1 k2 ht6 hW6 ⊢
      refine ⟨rfl, .agg #[.bool neg2, .int .i64 e2, .slice a2 n2 c2], by simp [results, go_sem, k0, k1, k2], ⟨⟨neg2, e2, a2, n2, c2, L, rfl, HB2.out.2.2.2, hW6⟩, ht6⟩⟩
    · have hk1I : ((k : Int) == 1) = false := by rw [beq_eq_false_iff_ne]; omega
      by_cases hk2 : k = 2
      · subst hk2
        obtain ⟨y, hy⟩ : ∃ y, x / 2048 = y := ⟨_, rfl⟩
        have hyI : (x : Int) / 2048 = (y : Int) := by omega
        obtain ⟨p, hp, hpl⟩ := or_u64 9223372036854775808 y (by decide) (by omega)
        have hpI : bits .or .u64 9223372036854775808 (y : Int) = (p : Int) := hp
        obtain ⟨q, hq, hql⟩ := or_u64 9223372036854775808 x (by decide) (by omega)
        have hqI : bits .or .u64 9223372036854775808 (x : Int) = (q : Int) := hq
        clear hy hp hq
        go_wp2_with (first
          | (refine (seatnum_any neg (some ⟨wc.heap.size, 0, none⟩) 2 2 [p, q] (e0 - 32) (wc.alloc (.cells #[.int .u64 (p : Int), .int .u64 (q : Int)] 40)) (words_2 wc p q hpl hql 40) (by decide) (by omega) (by omega)).mono ?_; rintro e w2 ⟨⟨neg2, e2, a2, n2, c2, L, rfl, hnum, hW⟩, hb2⟩; have hbx := Below.next0 ((Below.refl wc.heap.size wc).alloc (Nat.le_refl _) (.cells #[.int .u64 (p : Int), .int .u64 (q : Int)] 40)) hb2; have hNN := HN.out.1.step hbx HN.out.2.1; have hc0 := hNN.c0; have hc1 := hNN.c1; have hc2 := hNN.c2; have hf0 := hNN.f0; have hf1 := hNN.f1; have hf2 := hNN.f2; have hd1' := hNN.d1 (.bool neg2); have hd2' := hNN.d2 (.bool neg2) (.int .i64 e2); have HB2 := Lib.hid (And.intro hNN (And.intro (HN.out.2.2.trans0 (Turn.of_below hbx _)) (And.intro hW hnum))); clear hNN hbx hW hnum hb2))
        have hS5 := HB2.out.1.store (.bool neg2) (.int .i64 e2) (.slice a2 n2 c2)
        have k0 := hS5.c0
        have k1 := hS5.c1
        have k2 := hS5.c2
        have ht6 := ((HB2.out.2.1.newSet (p := ⟨w.heap.size, 0, none⟩) (Nat.le_refl _) (.bool neg2)).newSet (p := ⟨w.heap.size, 1, none⟩) (Nat.le_refl _) (.int .i64 e2)).newSet (p := ⟨w.heap.size, 2, none⟩) (Nat.le_refl _) (.slice a2 n2 c2)
        have hWw := HB2.out.2.2.1
        have hW6 : WordsIn _ a2 n2 c2 L := ⟨hWw.len, hWw.cap, hWw.most, hWw.low, (hWw.rd.store3 HB2.out.1 (fun _ => by simp [nv]) (fun _ => by simp [nv]) (fun _ => by simp [nv]) (.bool neg2) (.int .i64 e2) (.slice a2 n2 c2)).more (box_size _ _ _ _ _)⟩
        clear hS5 hc0 hc1 hc2 hf0 hf1 hf2 hd1' hd2' hWw
        generalize World.setCell _ _ _ = W5 at k0 k1 k2 ht6 hW6 ⊢
        refine ⟨rfl, .agg #[.bool neg2, .int .i64 e2, .slice a2 n2 c2], by simp [results, go_sem, k0, k1, k2], ⟨⟨neg2, e2, a2, n2, c2, L, rfl, HB2.out.2.2.2, hW6⟩, ht6⟩⟩
      · have hk2I : ((k : Int) == 2) = false := by rw [beq_eq_false_iff_ne]; omega
        by_cases hk3 : k = 3
        · subst hk3
          obtain ⟨j, hj⟩ : ∃ j, x / 2048 % 4 = j := ⟨_, rfl⟩
          have hjI : (x : Int) / 2048 % 4 = (j : Int) := by omega
          obtain ⟨y, hy⟩ : ∃ y, x / 1048576 = y := ⟨_, rfl⟩
          have hyI : (x : Int) / 1048576 = (y : Int) := by omega
          obtain ⟨r, hr⟩ : ∃ r, x / 1073741824 % 9 = r := ⟨_, rfl⟩
          have hrI : (x : Int) / 1073741824 % 9 = (r : Int) := by omega
          have hr9 : (r : Int) ≤ 8 := by omega
          obtain ⟨p, hp, hpl⟩ := and_u64 y 15 (by omega) (by decide)
          have hpI : bits .and .u64 (y : Int) 15 = (p : Int) := hp
          obtain ⟨q, hq, hql⟩ := or_u64 1 p (by decide) hpl
          have hqI : bits .or .u64 1 (p : Int) = (q : Int) := hq
          have hj4 : j < 4 := by omega
          clear hj hy hr hp hq
          by_cases hj0 : j = 0
          · subst hj0
            go_wp2_with (first
              | (refine (seatnum_any neg (some ⟨wc.heap.size, 0, none⟩) 1 1 [q] (65536 - (r : Int)) (wc.alloc (.cells #[.int .u64 (q : Int)] 40)) (words_d wc q (hql) 40) (by decide) (by omega) (by omega)).mono ?_; rintro e w2 ⟨⟨neg2, e2, a2, n2, c2, L, rfl, hnum, hW⟩, hb2⟩; have hbx := Below.next0 ((Below.refl wc.heap.size wc).alloc (Nat.le_refl _) (.cells #[.int .u64 (q : Int)] 40)) hb2; have hNN := HN.out.1.step hbx HN.out.2.1; have hc0 := hNN.c0; have hc1 := hNN.c1; have hc2 := hNN.c2; have hf0 := hNN.f0; have hf1 := hNN.f1; have hf2 := hNN.f2; have hd1' := hNN.d1 (.bool neg2); have hd2' := hNN.d2 (.bool neg2) (.int .i64 e2); have HB2 := Lib.hid (And.intro hNN (And.intro (HN.out.2.2.trans0 (Turn.of_below hbx _)) (And.intro hW hnum))); clear hNN hbx hW hnum hb2))
            have hS5 := HB2.out.1.store (.bool neg2) (.int .i64 e2) (.slice a2 n2 c2)
            have k0 := hS5.c0
            have k1 := hS5.c1
            have k2 := hS5.c2
            have ht6 := ((HB2.out.2.1.newSet (p := ⟨w.heap.size, 0, none⟩) (Nat.le_refl _) (.bool neg2)).newSet (p := ⟨w.heap.size, 1, none⟩) (Nat.le_refl _) (.int .i64 e2)).newSet (p := ⟨w.heap.size, 2, none⟩) (Nat.le_refl _) (.slice a2 n2 c2)
            have hWw := HB2.out.2.2.1
            have hW6 : WordsIn _ a2 n2 c2 L := ⟨hWw.len, hWw.cap, hWw.most, hWw.low, (hWw.rd.store3 HB2.out.1 (fun _ => by simp [nv]) (fun _ => by simp [nv]) (fun _ => by simp [nv]) (.bool neg2) (.int .i64 e2) (.slice a2 n2 c2)).more (box_size _ _ _ _ _)⟩
            clear hS5 hc0 hc1 hc2 hf0 hf1 hf2 hd1' hd2' hWw
            generalize World.setCell _ _ _ = W5 at k0 k1 k2 ht6 hW6 ⊢
            refine ⟨rfl, .agg #[.bool neg2, .int .i64 e2, .slice a2 n2 c2], by simp [results, go_sem, k0, k1, k2], ⟨⟨neg2, e2, a2, n2, c2, L, rfl, HB2.out.2.2.2, hW6⟩, ht6⟩⟩
          · have hj0I : ((j : Int) == 0) = false := by rw [beq_eq_false_iff_ne]; omega
            by_cases hj1 : j = 1
            · subst hj1
              go_wp2_with (first
                | (refine (seatnum_any neg (some ⟨wc.heap.size, 0, none⟩) 1 1 [q] ((r : Int) - 65536) (wc.alloc (.cells #[.int .u64 (q : Int)] 40)) (words_d wc q (hql) 40) (by decide) (by omega) (by omega)).mono ?_; rintro e w2 ⟨⟨neg2, e2, a2, n2, c2, L, rfl, hnum, hW⟩, hb2⟩; have hbx := Below.next0 ((Below.refl wc.heap.size wc).alloc (Nat.le_refl _) (.cells #[.int .u64 (q : Int)] 40)) hb2; have hNN := HN.out.1.step hbx HN.out.2.1; have hc0 := hNN.c0; have hc1 := hNN.c1; have hc2 := hNN.c2; have hf0 := hNN.f0; have hf1 := hNN.f1; have hf2 := hNN.f2; have hd1' := hNN.d1 (.bool neg2); have hd2' := hNN.d2 (.bool neg2) (.int .i64 e2); have HB2 := Lib.hid (And.intro hNN (And.intro (HN.out.2.2.trans0 (Turn.of_below hbx _)) (And.intro hW hnum))); clear hNN hbx hW hnum hb2))
              have hS5 := HB2.out.1.store (.bool neg2) (.int .i64 e2) (.slice a2 n2 c2)
              have k0 := hS5.c0
              have k1 := hS5.c1
              have k2 := hS5.c2
              have ht6 := ((HB2.out.2.1.newSet (p := ⟨w.heap.size, 0, none⟩) (Nat.le_refl _) (.bool neg2)).newSet (p := ⟨w.heap.size, 1, none⟩) (Nat.le_refl _) (.int .i64 e2)).newSet (p := ⟨w.heap.size, 2, none⟩) (Nat.le_refl _) (.slice a2 n2 c2)
              have hWw := HB2.out.2.2.1
              have hW6 : WordsIn _ a2 n2 c2 L := ⟨hWw.len, hWw.cap, hWw.most, hWw.low, (hWw.rd.store3 HB2.out.1 (fun _ => by simp [nv]) (fun _ => by simp [nv]) (fun _ => by simp [nv]) (.bool neg2) (.int .i64 e2) (.slice a2 n2 c2)).more (box_size _ _ _ _ _)⟩
              clear hS5 hc0 hc1 hc2 hf0 hf1 hf2 hd1' hd2' hWw
              generalize World.setCell _ _ _ = W5 at k0 k1 k2 ht6 hW6 ⊢
              refine ⟨rfl, .agg #[.bool neg2, .int .i64 e2, .slice a2 n2 c2], by simp [results, go_sem, k0, k1, k2], ⟨⟨neg2, e2, a2, n2, c2, L, rfl, HB2.out.2.2.2, hW6⟩, ht6⟩⟩
            · have hj1I : ((j : Int) == 1) = false := by rw [beq_eq_false_iff_ne]; omega
              obtain ⟨t, ht⟩ : ∃ t, y % 64 = t := ⟨_, rfl⟩
              have htI : (y : Int) % 64 = (t : Int) := by omega
              have ht64 : t < 64 := by omega
              obtain ⟨pw, hpw⟩ : ∃ pw : Nat, 2 ^ t = pw := ⟨_, rfl⟩
              have hpwI : (2 : Int) ^ t = (pw : Int) := by rw [← hpw]; norm_cast
              have hpwl : pw < 18446744073709551616 := by rw [← hpw]; exact Nat.pow_lt_pow_right (n := 64) (by decide) ht64
              clear ht hpw
              go_wp2_with (first
                | (refine (seatnum_any neg (some ⟨wc.heap.size, 0, none⟩) 1 1 [pw] (e0 - 32) (wc.alloc (.cells #[.int .u64 (pw : Int)] 40)) (words_d wc pw (hpwl) 40) (by decide) (by omega) (by omega)).mono ?_; rintro e w2 ⟨⟨neg2, e2, a2, n2, c2, L, rfl, hnum, hW⟩, hb2⟩; have hbx := Below.next0 ((Below.refl wc.heap.size wc).alloc (Nat.le_refl _) (.cells #[.int .u64 (pw : Int)] 40)) hb2; have hNN := HN.out.1.step hbx HN.out.2.1; have hc0 := hNN.c0; have hc1 := hNN.c1; have hc2 := hNN.c2; have hf0 := hNN.f0; have hf1 := hNN.f1; have hf2 := hNN.f2; have hd1' := hNN.d1 (.bool neg2); have hd2' := hNN.d2 (.bool neg2) (.int .i64 e2); have HB2 := Lib.hid (And.intro hNN (And.intro (HN.out.2.2.trans0 (Turn.of_below hbx _)) (And.intro hW hnum))); clear hNN hbx hW hnum hb2))
              have hS5 := HB2.out.1.store (.bool neg2) (.int .i64 e2) (.slice a2 n2 c2)
              have k0 := hS5.c0
              have k1 := hS5.c1
              have k2 := hS5.c2
              have ht6 := ((HB2.out.2.1.newSet (p := ⟨w.heap.size, 0, none⟩) (Nat.le_refl _) (.bool neg2)).newSet (p := ⟨w.heap.size, 1, none⟩) (Nat.le_refl _) (.int .i64 e2)).newSet (p := ⟨w.heap.size, 2, none⟩) (Nat.le_refl _) (.slice a2 n2 c2)
              have hWw := HB2.out.2.2.1
              have hW6 : WordsIn _ a2 n2 c2 L := ⟨hWw.len, hWw.cap, hWw.most, hWw.low, (hWw.rd.store3 HB2.out.1 (fun _ => by simp [nv]) (fun _ => by simp [nv]) (fun _ => by simp [nv]) (.bool neg2) (.int .i64 e2) (.slice a2 n2 c2)).more (box_size _ _ _ _ _)⟩
              clear hS5 hc0 hc1 hc2 hf0 hf1 hf2 hd1' hd2' hWw
              generalize World.setCell _ _ _ = W5 at k0 k1 k2 ht6 hW6 ⊢
              refine ⟨rfl, .agg #[.bool neg2, .int .i64 e2, .slice a2 n2 c2], by simp [results, go_sem, k0, k1, k2], ⟨⟨neg2, e2, a2, n2, c2, L, rfl, HB2.out.2.2.2, hW6⟩, ht6⟩⟩
        · have hk3I : ((k : Int) == 3) = false := by rw [beq_eq_false_iff_ne]; omega
          obtain ⟨yy, hyy⟩ : ∃ y, x / 1024 = y := ⟨_, rfl⟩
          have hyyI : (x : Int) / 1024 = (yy : Int) := by omega
          have hyyl : yy < 18446744073709551616 := by omega
          clear hyy
          go_wp2_with fail
          refine (decknext_any b (i + 1) wc HD1.out.1 (by omega)).mono ?_
          rintro e wA ⟨⟨y2, hy2, rfl⟩, hdk, htk⟩
          have HDA := Lib.hid hdk
          have HNA := Lib.hid (And.intro (HN.out.1.turn htk HN.out.2.1 (by omega)) (And.intro (Nat.lt_of_lt_of_le HN.out.2.1 htk.size) (HN.out.2.2.trans0 htk)))
          clear hdk htk
          obtain ⟨z, hz⟩ : ∃ z, y2 * 1048576 % 18446744073709551616 = z := ⟨_, rfl⟩
          have hzI : (y2 : Int) * 1048576 % 18446744073709551616 = (z : Int) := by omega
          have hwz : IntKind.u64.wrap ((y2 : Int) * 1048576) = (z : Int) := by rw [IntKind.wrap_u64]; exact hzI
          have hzl : z < 18446744073709551616 := by omega
          obtain ⟨p, hp, hpl⟩ := or_u64 yy z hyyl hzl
          have hpI : bits .or .u64 (yy : Int) (z : Int) = (p : Int) := hp
          clear hz hp
          go_wp2_with (first
            | (refine (seatnum_any neg (some ⟨wA.heap.size, 0, none⟩) 1 1 [p] (e0 - 32 - 30) (wA.alloc (.cells #[.int .u64 (p : Int)] 40)) (words_d wA p (hpl) 40) (by decide) (by omega) (by omega)).mono ?_; rintro e w2 ⟨⟨neg2, e2, a2, n2, c2, L, rfl, hnum, hW⟩, hb2⟩; have hbx := Below.next0 ((Below.refl wA.heap.size wA).alloc (Nat.le_refl _) (.cells #[.int .u64 (p : Int)] 40)) hb2; have hNN := HNA.out.1.step hbx HNA.out.2.1; have hc0 := hNN.c0; have hc1 := hNN.c1; have hc2 := hNN.c2; have hf0 := hNN.f0; have hf1 := hNN.f1; have hf2 := hNN.f2; have hd1' := hNN.d1 (.bool neg2); have hd2' := hNN.d2 (.bool neg2) (.int .i64 e2); have HB2 := Lib.hid (And.intro hNN (And.intro (HNA.out.2.2.trans0 (Turn.of_below hbx _)) (And.intro hW hnum))); clear hNN hbx hW hnum hb2))
          have hS5 := HB2.out.1.store (.bool neg2) (.int .i64 e2) (.slice a2 n2 c2)
          have k0 := hS5.c0
          have k1 := hS5.c1
          have k2 := hS5.c2
          have ht6 := ((HB2.out.2.1.newSet (p := ⟨w.heap.size, 0, none⟩) (Nat.le_refl _) (.bool neg2)).newSet (p := ⟨w.heap.size, 1, none⟩) (Nat.le_refl _) (.int .i64 e2)).newSet (p := ⟨w.heap.size, 2, none⟩) (Nat.le_refl _) (.slice a2 n2 c2)
          have hWw := HB2.out.2.2.1
          have hW6 : WordsIn _ a2 n2 c2 L := ⟨hWw.len, hWw.cap, hWw.most, hWw.low, (hWw.rd.store3 HB2.out.1 (fun _ => by simp [nv]) (fun _ => by simp [nv]) (fun _ => by simp [nv]) (.bool neg2) (.int .i64 e2) (.slice a2 n2 c2)).more (box_size _ _ _ _ _)⟩
          clear hS5 hc0 hc1 hc2 hf0 hf1 hf2 hd1' hd2' hWw
          generalize World.setCell _ _ _ = W5 at k0 k1 k2 ht6 hW6 ⊢
          refine ⟨rfl, .agg #[.bool neg2, .int .i64 e2, .slice a2 n2 c2], by simp [results, go_sem, k0, k1, k2], ⟨⟨neg2, e2, a2, n2, c2, L, rfl, HB2.out.2.2.2, hW6⟩, ht6⟩⟩
end Go.Proofs.YtmocmkfpblakbaaGreatDoor
