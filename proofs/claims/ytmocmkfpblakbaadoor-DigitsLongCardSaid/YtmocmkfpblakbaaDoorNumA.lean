/- The walk of the numbers' Right. Condition: the words lie as a slice of words, not too long. -/
import Derived.Test.YtmocmkfpblakbaaDoorNatB
import Derived.Laws.BitsAllLaws
namespace Go.Proofs.YtmocmkfpblakbaaDoor
open Go.RowKit WordsM

/-- a number as a value -/
def numV (neg : Bool) (exp : Int) (a : Option Addr) (n c : Nat) : Value := .agg #[.bool neg, .int .i64 exp, .slice a n c]
/-- the one form of a number's value -/
def IsNum (neg : Bool) (exp : Int) (ls : List Nat) : Prop :=
  if ls = [] then neg = false ∧ exp = 0 else (trimL ls).length = ls.length ∧ ls.length ≤ 64 ∧ ls.headD 0 % 2 = 1 ∧ -65536 ≤ exp ∧ exp ≤ 65536
instance (neg : Bool) (exp : Int) (ls : List Nat) : Decidable (IsNum neg exp ls) := by unfold IsNum; infer_instance
set_option maxRecDepth 100000 in
set_option maxHeartbeats 2000000 in
theorem numright_any (neg : Bool) (exp : Int) (a : Option Addr) (n c : Nat) (ls : List Nat) (w : World) (h : WordsIn w a n c ls) (he : -9223372036854775808 ≤ exp) (he2 : exp ≤ 9223372036854775807) (hn : n ≤ 9223372036854775807) :
    Calls Tryd.prog 26 #[.agg #[.bool neg, .int .i64 exp, .slice a n c]] w fun e w' => e = .returned (.bool (decide (IsNum neg exp ls))) ∧ Below w.heap.size w w' := by
  have hln := h.len
  have hB0 : ∀ o, Below w.heap.size w (w.alloc o) := fun o => (Below.refl _ _).alloc (Nat.le_refl _) _
  by_cases h0 : n = 0
  · obtain rfl : ls = [] := List.length_eq_zero_iff.1 (by omega)
    subst h0
    cases neg
    · go_enter Tryd.func26, Tryd.ntmps26
      go_wp2_with fail
      go_ret
      refine ⟨?_, hB0 _⟩
      show Ending.returned (.bool _) = _
      congr 2
      by_cases h : exp = 0 <;> simp [IsNum, h]
    · go_enter Tryd.func26, Tryd.ntmps26
      go_wp2_with fail
      go_ret
      refine ⟨?_, hB0 _⟩
      show Ending.returned (.bool _) = _
      congr 2
  · obtain ⟨x, hx⟩ : ∃ x, ls[0]? = some x := ⟨_, List.getElem?_eq_getElem (by omega)⟩
    have hne : ls ≠ [] := fun e => by rw [e] at hx; simp at hx
    have hxl : x < 18446744073709551616 := h.low x (List.mem_of_getElem? hx)
    have hhd : ls.headD 0 = x := by cases ls with
      | nil => exact absurd rfl hne
      | cons y r => simpa using hx
    have h0I : ((n : Int) == 0) = false := by rw [beq_eq_false_iff_ne]; omega
    have hand : bits .and .u64 (x : Int) 1 = ((x % 2 : Nat) : Int) := by rw [show (1 : Int) = ((1 : Nat) : Int) from rfl, u64_and_nat x 1 hxl (by decide), nat_mask1]
    obtain ⟨m, hm⟩ : ∃ m, x % 2 = m := ⟨_, rfl⟩
    rw [hm] at hand
    have hr := fun W (hb : Below w.heap.size w W) => natright_any a n c ls W (h.step hb)
    have hN : IsNum neg exp ls ↔ ((trimL ls).length = n ∧ n ≤ 64 ∧ m = 1 ∧ -65536 ≤ exp ∧ exp ≤ 65536) := by
      unfold IsNum
      rw [if_neg hne, hhd, hm, hln]
    have hex : decide (IsNum neg exp ls) = (decide ((trimL ls).length = n) && (!decide ((64 : Int) < n) && ((m : Int) == 1 && (decide (-65536 ≤ exp) && decide (exp ≤ 65536))))) := by
      have e64 : ((64 : Int) < (n : Int)) ↔ ¬ n ≤ 64 := by omega
      have e1 : ((m : Int) == 1) = decide (m = 1) := by by_cases h : m = 1 <;> simp [h] <;> omega
      rw [e1, Bool.eq_iff_iff]
      simp only [decide_eq_true_eq, Bool.and_eq_true, Bool.not_eq_true', decide_eq_false_iff_not, e64, Nat.not_le, Nat.not_lt]
      exact hN
    rw [hex]
    obtain ⟨R, hR⟩ : ∃ R, decide ((trimL ls).length = n) = R := ⟨_, rfl⟩
    rw [hR] at hr ⊢
    have HR := Lib.hid hr
    have HH := Lib.hid (And.intro h hx)
    clear hr hR hex hm hhd hne hN
    have h0n : 0 < n := by omega
    clear h0
    have hlt : w.heap.size < (w.alloc (.cells #[.bool neg, .int .i64 exp, .slice a n c] 28)).heap.size := (Array.getElem?_eq_some_iff.1 (heap_alloc_new w _)).1
    have hk1 : (w.alloc (.cells #[.bool neg, .int .i64 exp, .slice a n c] 28)).cell? ⟨w.heap.size, 1, none⟩ = some (.int .i64 exp) := by rw [cell_of_row _ _ _ _ _ _ (heap_alloc_new _ _)]; rfl
    have hk2 : (w.alloc (.cells #[.bool neg, .int .i64 exp, .slice a n c] 28)).cell? ⟨w.heap.size, 2, none⟩ = some (.slice a n c) := by rw [cell_of_row _ _ _ _ _ _ (heap_alloc_new _ _)]; rfl
    have HK := Lib.hid (And.intro hlt (And.intro hk1 hk2))
    clear hlt hk1 hk2
    cases R
    · go_enter Tryd.func26, Tryd.ntmps26
      go_wp2_with (refine (HR.out _ (hB0 _)).mono ?_; rintro e w1 ⟨rfl, hb1⟩; have HB1 := Lib.hid hb1; clear hb1)
      go_ret
      exact ⟨rfl, Below.next0 (hB0 _) HB1.out⟩
    · obtain ⟨b, o, hae, hbl, hcx⟩ := HH.out.1.rd.at_ HH.out.2
      subst hae
      rw [Nat.add_zero] at hcx
      by_cases h64 : (64 : Int) < (n : Int)
      · go_enter Tryd.func26, Tryd.ntmps26
        go_wp2_with (refine (HR.out _ (hB0 _)).mono ?_; rintro e w1 ⟨rfl, hb1⟩; have hc1 := (hb1.cell (p := ⟨w.heap.size, 1, none⟩) HK.out.1).trans HK.out.2.1; have hc2 := (hb1.cell (p := ⟨w.heap.size, 2, none⟩) HK.out.1).trans HK.out.2.2; have HB1 := Lib.hid hb1; clear hb1)
        all_goals
          go_ret
          refine ⟨?_, Below.next0 (hB0 _) HB1.out⟩
          show Ending.returned (.bool _) = Ending.returned (.bool _)
          clear HH HK HR HB1 hc1 hc2 hcx h
          congr 2
        all_goals simp_all
        all_goals omega
      · go_enter Tryd.func26, Tryd.ntmps26
        go_wp2_with (refine (HR.out _ (hB0 _)).mono ?_; rintro e w1 ⟨rfl, hb1⟩; have hc1 := (hb1.cell (p := ⟨w.heap.size, 1, none⟩) HK.out.1).trans HK.out.2.1; have hc2 := (hb1.cell (p := ⟨w.heap.size, 2, none⟩) HK.out.1).trans HK.out.2.2; have hcx1 := (Below.next0 (hB0 _) hb1).cell (p := ⟨b, o, none⟩) hbl |>.trans hcx; have HB1 := Lib.hid hb1; clear hb1)
        all_goals
          go_ret
          refine ⟨?_, Below.next0 (hB0 _) HB1.out⟩
          show Ending.returned (.bool _) = Ending.returned (.bool _)
          clear HH HK HR HB1 hc1 hc2 hcx h
          congr 2
        all_goals simp_all
        all_goals omega
end Go.Proofs.YtmocmkfpblakbaaDoor
