/- The walk of the numbers' Same. Condition: the words lie as slices of words. -/
import Derived.Test.YtmocmkfpblakbaaDoorNumA
import Derived.Test.YtmocmkfpblakbaaDoorWordsM2
namespace Go.Proofs.YtmocmkfpblakbaaDoor
open Go.RowKit WordsM

theorem below_drewN {B : Nat} {a w : World} (h : Below B a w) (k : Nat) : Below B a (w.drewN k) := ⟨h.os, h.tape, h.output, h.size, h.block⟩
theorem box_at (w : World) (neg : Bool) (exp : Int) (a : Option Addr) (n c : Nat) (T : TypeId) :
    w.heap.size < (w.alloc (.cells #[.bool neg, .int .i64 exp, .slice a n c] T)).heap.size ∧ (w.alloc (.cells #[.bool neg, .int .i64 exp, .slice a n c] T)).cell? ⟨w.heap.size, 0, none⟩ = some (.bool neg) ∧ (w.alloc (.cells #[.bool neg, .int .i64 exp, .slice a n c] T)).cell? ⟨w.heap.size, 1, none⟩ = some (.int .i64 exp) ∧ (w.alloc (.cells #[.bool neg, .int .i64 exp, .slice a n c] T)).cell? ⟨w.heap.size, 2, none⟩ = some (.slice a n c) :=
  ⟨(Array.getElem?_eq_some_iff.1 (heap_alloc_new w _)).1, by rw [cell_of_row _ _ _ _ _ _ (heap_alloc_new _ _)]; rfl, by rw [cell_of_row _ _ _ _ _ _ (heap_alloc_new _ _)]; rfl, by rw [cell_of_row _ _ _ _ _ _ (heap_alloc_new _ _)]; rfl⟩
set_option maxRecDepth 100000 in
set_option maxHeartbeats 2000000 in
theorem numsame_any (neg : Bool) (exp : Int) (a : Option Addr) (n c : Nat) (ls : List Nat) (neg' : Bool) (exp' : Int) (b : Option Addr) (m d : Nat) (ks : List Nat) (w : World) (h1 : WordsIn w a n c ls) (h2 : WordsIn w b m d ks) (hn : n ≤ 9223372036854775807) :
    Calls Tryd.prog 13 #[.agg #[.bool neg, .int .i64 exp, .slice a n c], .agg #[.bool neg', .int .i64 exp', .slice b m d]] w fun e w' => e = .returned (.bool (decide (neg = neg' ∧ exp = exp' ∧ ls = ks))) ∧ Below w.heap.size w w' := by
  have hl1 := h1.len
  have hl2 := h2.len
  by_cases hneq : neg = neg' ∧ exp = exp' ∧ n = m
  · obtain ⟨rfl, rfl, rfl⟩ := hneq
    have hdec : decide (neg = neg ∧ exp = exp ∧ ls = ks) = decide (ls = ks) := by simp
    rw [hdec]
    clear hdec
    have H1 := Lib.hid h1
    have H2 := Lib.hid h2
    clear h1 h2
    go_enter Tryd.func13, Tryd.ntmps13
    go_wp2_with fail
    obtain ⟨W2, hW2⟩ : ∃ W2, (w.alloc (.cells #[.bool neg, .int .i64 exp, .slice a n c] 28)).alloc (.cells #[.bool neg, .int .i64 exp, .slice b n d] 28) = W2 := ⟨_, rfl⟩
    have hb1 : Below w.heap.size w W2 := by rw [← hW2]; exact Below.next0 ((Below.refl _ _).alloc (Nat.le_refl _) _) ((Below.refl _ _).alloc (Nat.le_refl _) _)
    have hsz : (w.alloc (.cells #[.bool neg, .int .i64 exp, .slice a n c] 28)).heap.size = w.heap.size + 1 := Array.size_push ..
    have hx1 := box_at w neg exp a n c 28
    have hx2 := box_at (w.alloc (.cells #[.bool neg, .int .i64 exp, .slice a n c] 28)) neg exp b n d 28
    have hy1 : W2.cell? ⟨w.heap.size, 2, none⟩ = some (.slice a n c) := by
      rw [← hW2]
      exact ((Below.alloc (Below.refl _ _) (Nat.le_refl _) _).cell (p := ⟨w.heap.size, 2, none⟩) hx1.1).trans hx1.2.2.2
    have hy2 : W2.cell? ⟨w.heap.size + 1, 2, none⟩ = some (.slice b n d) := by
      rw [← hW2, ← hsz]
      exact hx2.2.2.2
    have hs2 : w.heap.size + 1 < W2.heap.size := by rw [← hW2, ← hsz]; exact hx2.1
    rw [hW2]
    clear hx1 hx2 hW2 hsz
    have HX := Lib.hid (And.intro hy1 (And.intro hy2 (And.intro hb1 hs2)))
    clear hy1 hy2 hb1 hs2
    go_loopw [30] (fun v wr => ∃ i : Nat, v = .int .i64 (i : Int) ∧ i ≤ n ∧ (∀ j, j < i → ls[j]? = ks[j]?) ∧ Below W2.heap.size W2 wr) (fun v _ => n - (intOf v).toNat)
    case atStart => exact ⟨0, rfl, Nat.zero_le _, fun j h => absurd h (Nat.not_lt_zero _), Below.refl _ _⟩
    case round =>
      obtain ⟨i, rfl, hi, hpre, hb⟩ := hrel
      have hbw : Below w.heap.size w wr := Below.next0 HX.out.2.2.1 hb
      have hc1 : wr.cell? ⟨w.heap.size, 2, none⟩ = some (.slice a n c) := (hb.cell (p := ⟨w.heap.size, 2, none⟩) (by have := HX.out.2.2.2; show w.heap.size < _; omega)).trans HX.out.1
      have hc2 : wr.cell? ⟨w.heap.size + 1, 2, none⟩ = some (.slice b n d) := (hb.cell (p := ⟨w.heap.size + 1, 2, none⟩) HX.out.2.2.2).trans HX.out.2.1
      by_cases hlt : i < n
      · have hlt' : (i : Int) < (n : Int) := by omega
        obtain ⟨x, hx⟩ : ∃ x, ls[i]? = some x := ⟨_, List.getElem?_eq_getElem (by omega)⟩
        obtain ⟨y, hy⟩ : ∃ y, ks[i]? = some y := ⟨_, List.getElem?_eq_getElem (by omega)⟩
        obtain ⟨g1, o1, rfl, hg1, hcx⟩ := (H1.out.rd.below hbw).at_ hx
        obtain ⟨g2, o2, rfl, hg2, hcy⟩ := (H2.out.rd.below hbw).at_ hy
        have HP := Lib.hid (And.intro hpre (And.intro hb (And.intro hbw (And.intro hx hy))))
        clear hpre hb hbw hx hy
        by_cases hxy : x = y
        · subst hxy
          go_wp2_with fail
          go_quiet (fail)
          go_wp2_with fail
          refine ⟨⟨i + 1, by simp, by omega, fun j hj => ?_, below_drewN HP.out.2.1 nq⟩, by simp only [intOf]; omega⟩
          by_cases hji : j = i
          · subst hji; rw [HP.out.2.2.2.1, HP.out.2.2.2.2]
          · exact HP.out.1 j (by omega)
        · have hxy' : ((x : Int) == (y : Int)) = false := by rw [beq_eq_false_iff_ne]; omega
          have hxy2 : ((x : Int) != (y : Int)) = true := by simp [bne, hxy']
          go_wp2_with fail
          go_quiet (fail)
          go_wp2_with fail
          go_ret
          have hne : ¬ ls = ks := fun e => hxy (by have h1 := HP.out.2.2.2.1; have h2 := HP.out.2.2.2.2; rw [e, h2] at h1; injection h1 with h1; exact h1.symm)
          exact ⟨by rw [decide_eq_false hne]; rfl, below_drewN HP.out.2.2.1 nq⟩
      · obtain rfl : i = n := by omega
        have hlt' : ¬ ((i : Int) < (i : Int)) := by omega
        have heq : ls = ks := same_all (fun j hj => hpre j (by omega)) (by omega)
        have HE := Lib.hid (And.intro heq hbw)
        clear heq hbw hb hpre
        go_wp2_with fail
        go_ret
        exact ⟨by rw [decide_eq_true HE.out.1]; rfl, HE.out.2⟩
  · have hdec : decide (neg = neg' ∧ exp = exp' ∧ ls = ks) = false := by
      rw [decide_eq_false_iff_not]
      rintro ⟨e1, e2, e3⟩
      exact hneq ⟨e1, e2, by rw [← hl1, ← hl2, e3]⟩
    rw [hdec]
    have hB : Below w.heap.size w ((w.alloc (.cells #[.bool neg, .int .i64 exp, .slice a n c] 28)).alloc (.cells #[.bool neg', .int .i64 exp', .slice b m d] 28)) := Below.next0 ((Below.refl _ _).alloc (Nat.le_refl _) _) ((Below.refl _ _).alloc (Nat.le_refl _) _)
    have HB := Lib.hid hB
    clear hB hdec h1 h2
    by_cases e1 : neg = neg'
    · subst e1
      by_cases e2 : exp = exp'
      · subst e2
        have e3 : ¬ ((n : Int) = (m : Int)) := by intro e; exact hneq ⟨rfl, rfl, by omega⟩
        have e3' : ((n : Int) == (m : Int)) = false := by rw [beq_eq_false_iff_ne]; exact e3
        go_enter Tryd.func13, Tryd.ntmps13
        go_wp2_with fail
        go_ret
        exact ⟨rfl, HB.out⟩
      · have e2' : (exp == exp') = false := by rw [beq_eq_false_iff_ne]; exact e2
        go_enter Tryd.func13, Tryd.ntmps13
        go_wp2_with fail
        go_ret
        exact ⟨rfl, HB.out⟩
    · have e1' : (neg == neg') = false := by rw [beq_eq_false_iff_ne]; exact e1
      go_enter Tryd.func13, Tryd.ntmps13
      go_wp2_with fail
      go_ret
      exact ⟨rfl, HB.out⟩
end Go.Proofs.YtmocmkfpblakbaaDoor
