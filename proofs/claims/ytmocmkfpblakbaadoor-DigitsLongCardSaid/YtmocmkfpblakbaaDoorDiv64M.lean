/- The plain law of a division of two words by a word whose top bit is set, by half words. Plain. -/
namespace Go.Proofs.YtmocmkfpblakbaaDoor
namespace Div64M
theorem part_eq {D y1 y0 u r q : Nat} (h : q * y1 + r = u) : q * (y1 * D + y0) + D * r = u * D + q * y0 := by
  subst h
  rw [Nat.mul_add, Nat.add_mul, ← Nat.mul_assoc, Nat.mul_comm D r]
  omega
theorem quot_low {D y u d : Nat} (hu : u < y) (hd : d < D) : (u * D + d) / y < D := by
  refine Nat.div_lt_of_lt_mul ?_
  have h : (u + 1) * D ≤ y * D := Nat.mul_le_mul_right D hu
  rw [Nat.add_mul, Nat.one_mul] at h
  omega
/-- the loop's way out by its condition -/
theorem out_cond {D y1 y0 u d q r : Nat} (hy : 0 < y1 * D + y0) (hinv : q * y1 + r = u) (hge : (u * D + d) / (y1 * D + y0) ≤ q) (hc : q * y0 ≤ D * r + d) : q = (u * D + d) / (y1 * D + y0) := by
  refine Nat.le_antisymm ?_ hge
  rw [Nat.le_div_iff_mul_le hy]
  have := part_eq (D := D) (y0 := y0) hinv
  omega
/-- where the condition holds the guess is too great -/
theorem too_great {D y1 y0 u d q r : Nat} (hu : u < y1 * D + y0) (hd : d < D) (hinv : q * y1 + r = u) (hc : D ≤ q ∨ D * r + d < q * y0) : (u * D + d) / (y1 * D + y0) + 1 ≤ q := by
  rcases hc with hc | hc
  · exact Nat.lt_of_lt_of_le (quot_low hu hd) hc
  · refine Nat.div_lt_of_lt_mul ?_
    have := part_eq (D := D) (y0 := y0) hinv
    rw [Nat.mul_comm (y1 * D + y0) q, Nat.mul_comm u D] at *
    omega
/-- the loop's way out behind its step -/
theorem out_step {D y1 y0 u d q r : Nat} (hy : 0 < y1 * D + y0) (h0 : y0 < D) (hinv : q * y1 + r = u) (hge : (u * D + d) / (y1 * D + y0) ≤ q) (hq : q ≤ D) (hr : D ≤ r) : q = (u * D + d) / (y1 * D + y0) := by
  refine out_cond hy hinv hge ?_
  have h1 : q * y0 ≤ D * y0 := Nat.mul_le_mul_right y0 hq
  have h2 : D * y0 ≤ D * r := Nat.mul_le_mul_left D (by omega)
  omega
theorem guess_le {D y1 y0 u : Nat} (hu : u < y1 * D + y0) (h0 : y0 < D) (h1 : D ≤ 2 * y1) : u / y1 ≤ D + 1 := by
  have hp : 0 < y1 := by omega
  refine Nat.le_of_lt_succ (Nat.div_lt_of_lt_mul ?_)
  have : y1 * (D + 1 + 1) = y1 * D + y1 + y1 := by rw [Nat.mul_add, Nat.mul_add, Nat.mul_one]
  show u < y1 * (D + 1 + 1)
  omega
theorem guess_ge {D y1 y0 u d : Nat} (h1 : 0 < y1) (hd : d < D) : (u * D + d) / (y1 * D + y0) ≤ u / y1 := by
  rw [Nat.le_div_iff_mul_le h1]
  have hy : 0 < y1 * D + y0 := by
    have := Nat.mul_pos h1 (show 0 < D by omega)
    omega
  obtain ⟨t, ht⟩ : ∃ t, (u * D + d) / (y1 * D + y0) = t := ⟨_, rfl⟩
  have h2 : t * (y1 * D + y0) ≤ u * D + d := by rw [← ht]; exact Nat.div_mul_le_self _ _
  rw [ht]
  have h3 : t * (y1 * D + y0) = t * y1 * D + t * y0 := by rw [Nat.mul_add, Nat.mul_assoc]
  have h4 : t * y1 * D < (u + 1) * D := by rw [Nat.add_mul, Nat.one_mul]; omega
  exact Nat.le_of_lt_succ (Nat.lt_of_mul_lt_mul_right h4)
/-- the two halves of the quotient -/
theorem halves {D y hi l1 l0 : Nat} (hy : 0 < y) :
    (hi * (D * D) + (l1 * D + l0)) / y = (hi * D + l1) / y * D + ((hi * D + l1) % y * D + l0) / y ∧ (hi * (D * D) + (l1 * D + l0)) % y = ((hi * D + l1) % y * D + l0) % y := by
  have e : hi * (D * D) + (l1 * D + l0) = y * ((hi * D + l1) / y * D) + ((hi * D + l1) % y * D + l0) := by
    have h := Nat.div_add_mod (hi * D + l1) y
    have h2 : (hi * D + l1) * D = (y * ((hi * D + l1) / y) + (hi * D + l1) % y) * D := by rw [h]
    rw [Nat.add_mul, Nat.add_mul, Nat.mul_assoc, Nat.mul_assoc] at h2
    omega
  rw [e]
  exact ⟨by rw [Nat.mul_add_div hy], Nat.mul_add_mod _ _ _⟩
end Div64M
end Go.Proofs.YtmocmkfpblakbaaDoor
