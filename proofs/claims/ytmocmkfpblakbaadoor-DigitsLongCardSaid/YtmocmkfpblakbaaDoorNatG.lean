/- The walk of the words' Zeros. Condition: the argument lies as a slice of words that is not 0; the library's table lies. -/
import Derived.Test.YtmocmkfpblakbaaDoorNatB
import Derived.Test.YtmocmkfpblakbaaDoorTz
namespace Go.Proofs.YtmocmkfpblakbaaDoor
open Go.RowKit WordsM

theorem tz_word {ls : List Nat} {i x k m : Nat} (h0 : val (2 ^ 64) (ls.take i) = 0) (hx : ls[i]? = some x) (he : x = 2 ^ k * (2 * m + 1)) (hk : k < 64) : IsTz (val (2 ^ 64) ls) (64 * i + k) := by
  have hi : i < ls.length := (List.getElem?_eq_some_iff.1 hx).1
  have hxe : ls[i] = x := (List.getElem?_eq_some_iff.1 hx).2
  have h1 := val_take_drop (B := 2 ^ 64) ls i
  rw [h0, Nat.zero_add, List.drop_eq_getElem_cons hi, hxe] at h1
  simp only [val] at h1
  obtain ⟨V, hV⟩ : ∃ V, val (2 ^ 64) (ls.drop (i + 1)) = V := ⟨_, rfl⟩
  rw [hV] at h1
  obtain ⟨t, ht⟩ : ∃ t, 64 = k + (t + 1) := ⟨63 - k, by omega⟩
  have e1 : x + 2 ^ 64 * V = 2 ^ k * (2 * (m + 2 ^ t * V) + 1) := by
    rw [he, show (2 : Nat) ^ 64 = 2 ^ k * (2 ^ t * 2) by rw [← Nat.pow_succ, ← Nat.pow_add, ← ht], Nat.mul_assoc, ← Nat.mul_add]
    congr 1
    rw [Nat.mul_comm (2 ^ t) 2, Nat.mul_assoc, Nat.mul_add]
    omega
  rw [e1, ← Nat.pow_mul, ← Nat.mul_assoc, ← Nat.pow_add] at h1
  rw [h1]
  have hp : 0 < 2 ^ (64 * i + k) := Nat.pow_pos (by decide)
  exact ⟨Nat.mul_mod_right _ _, by rw [Nat.mul_div_cancel_left _ hp]; omega⟩
/-- the library's table lies -/
def TabIn (w : World) : Prop := 0 < w.heap.size ∧ TabAt 0 Lib.deBruijn64tab w
theorem TabIn.step {w w' : World} (h : TabIn w) (hb : Below w.heap.size w w') : TabIn w' := ⟨Nat.lt_of_lt_of_le h.1 hb.size, fun j hj => (hb.cell (p := ⟨_, j, none⟩) h.1).trans (h.2 j hj)⟩
set_option maxRecDepth 100000 in
set_option maxHeartbeats 2000000 in
theorem natzeros_any (a : Option Addr) (n c : Nat) (ls : List Nat) (w : World) (h : WordsIn w a n c ls) (hT : TabIn w) (hn : n ≤ 1000000) (h0 : val (2 ^ 64) ls ≠ 0) :
    Calls Tryd.prog 24 #[.slice a n c] w fun e w' => (∃ z : Nat, e = .returned (.int .i64 (z : Int)) ∧ IsTz (val (2 ^ 64) ls) z ∧ z < 64 * n) ∧ Below w.heap.size w w' := by
  have hln := h.len
  have H := Lib.hid (And.intro h (And.intro hT h0))
  clear h hT h0
  go_enter Tryd.func24, Tryd.ntmps24
  go_wp2_with fail
  go_loopw [7] (fun v wr => ∃ i : Nat, v = .int .i64 (i : Int) ∧ i ≤ n ∧ val (2 ^ 64) (ls.take i) = 0 ∧ Below w.heap.size w wr) (fun v _ => n - (intOf v).toNat)
  case atStart => exact ⟨0, rfl, Nat.zero_le _, by simp [val], Below.refl _ _⟩
  case round =>
    obtain ⟨i, rfl, hi, hv, hb⟩ := hrel
    by_cases hlt : i < n
    · have hlt' : (i : Int) < (n : Int) := by omega
      obtain ⟨x, hx⟩ : ∃ x, ls[i]? = some x := ⟨_, List.getElem?_eq_getElem (by omega)⟩
      have hxl : x < 18446744073709551616 := H.out.1.low x (List.mem_of_getElem? hx)
      obtain ⟨g1, o1, hae, hg1, hcx⟩ := (H.out.1.rd.below hb).at_ hx
      subst hae
      have HH := Lib.hid (And.intro hv (And.intro hb hx))
      clear hv hb hx
      by_cases hx0 : x = 0
      · subst hx0
        go_wp2_with fail
        refine ⟨⟨i + 1, by simp, by omega, ?_, HH.out.2.1⟩, by simp only [intOf]; omega⟩
        rw [val_take_snoc ls i 0 HH.out.2.2, HH.out.1, Nat.mul_zero]
      · have hx0' : ((x : Int) == 0) = false := by rw [beq_eq_false_iff_ne]; omega
        have hctz := fun W (hb : Below w.heap.size w W) => (Tryd.bits_TrailingZeros64 x hxl W (fun _ => (H.out.2.1.step hb).2)).mono (R' := fun e w' => e = .returned (.int .i64 (Lib.ctz 64 x)) ∧ W = w') (by rintro e w' ⟨h1, h2⟩; exact ⟨h1, h2.symm⟩)
        obtain ⟨m, hm, hk⟩ := Lib.ctzFrom_spec 64 x (by omega) hxl
        have hce : Lib.ctz 64 x = Lib.ctzFrom 64 x := by unfold Lib.ctz; rw [if_neg hx0]
        rw [← hce] at hm hk
        obtain ⟨k, hkk⟩ : ∃ k, Lib.ctz 64 x = k := ⟨_, rfl⟩
        rw [hkk] at hm hk
        rw [hkk] at hctz
        have HZ := Lib.hid (And.intro hm hctz)
        clear hctz hm hce hkk
        go_wp2_with (refine (HZ.out.2 _ HH.out.2.1).mono ?_; rintro e w5 ⟨rfl, rfl⟩)
        go_ret
        exact ⟨⟨64 * i + k, rfl, tz_word HH.out.1 HH.out.2.2 HZ.out.1 hk, by omega⟩, HH.out.2.1⟩
    · exact absurd (by rw [List.take_of_length_le (by omega)] at hv; exact hv) H.out.2.2
end Go.Proofs.YtmocmkfpblakbaaDoor
