/- Plain law of long texts and of exponents: which form they have. No program in sight, no condition. -/
import Derived.Test.YtmocmkfpblakbaaDoorNumC
import Derived.Test.YtmocmkfpblakbaaDoorRefM
namespace Go.Proofs.YtmocmkfpblakbaaDoor
open Go.RowKit WordsM DecM

theorem minus_ones (k : Nat) : minus (List.replicate (k + 1) 49) = (false, List.replicate (k + 1) 49) := by
  rw [List.replicate_succ]; rfl
theorem ones_all (k : Nat) : allD (List.replicate k 49) := fun c hc => by
  rw [List.eq_of_mem_replicate hc]; decide
theorem digN_ones (k : Nat) : digN (List.replicate k 49) = k := by
  have h := digN_app (List.replicate k 49) [] (ones_all k)
  simpa [digN] using h
theorem dv_ones (k : Nat) : dv (List.replicate (k + 1) 49) = 10 * dv (List.replicate k 49) + 1 := by
  rw [List.replicate_succ', dv_snoc]; rfl
theorem ones_great : ∀ k, 10 ^ k ≤ dv (List.replicate (k + 1) 49)
  | 0 => by decide
  | k + 1 => by
    rw [dv_ones, Nat.pow_succ]
    have := ones_great k
    omega
theorem form_long (k : Nat) (h : 1300 < k) : form (List.replicate k 49) = none := by
  obtain ⟨j, rfl⟩ : ∃ j, k = j + 1 := ⟨k - 1, by omega⟩
  unfold form
  rw [minus_ones]
  simp only
  rw [digN_ones, if_pos (.inr (.inl h))]
theorem form_ones (k : Nat) (h : k + 1 ≤ 1300) : form (List.replicate (k + 1) 49) = some (false, dv (List.replicate (k + 1) 49), 0) := by
  unfold form
  rw [minus_ones]
  simp only
  rw [digN_ones, if_neg]
  · rw [List.drop_of_length_le (by simp), List.take_of_length_le (by simp)]; rfl
  · rintro (h1 | h1 | ⟨h1, h2⟩)
    · omega
    · omega
    · rw [List.replicate_succ] at h1; exact absurd (show (49 : UInt8) = 48 from h1) (by decide)
theorem tz_odd {v : Nat} (h : v % 2 = 1) : IsTz v 0 := ⟨by simp [Nat.mod_one], by simpa using h⟩
theorem pow_both (c a b j : Nat) (h : a * b ≤ j) (hc : 0 < c) : (c ^ a) ^ b ≤ c ^ j := by
  rw [← Nat.pow_mul]; exact Nat.pow_le_pow_right hc h
theorem ten_long {j : Nat} (h : 1280 ≤ j) : ((2 : Nat) ^ 64) ^ 64 ≤ 10 ^ j := by
  have h1 : ((2 : Nat) ^ 64) ^ 64 = ((2 ^ 64) ^ 2) ^ 32 := by rw [← Nat.pow_mul (2 ^ 64) 2 32]
  rw [h1]
  exact Nat.le_trans (Nat.pow_le_pow_left (show ((2 : Nat) ^ 64) ^ 2 ≤ 10 ^ 40 by decide) 32) (pow_both 10 40 32 j (by omega) (by decide))
theorem long_dig {B v : Nat} (hB : 2 ≤ B) (h : B ^ 64 ≤ v) : 64 < (dig B v).length := by
  refine Nat.lt_of_not_le fun hle => ?_
  have h1 := val_lt (B := B) (by omega) (dig B v) (dig_low hB v)
  rw [val_dig hB] at h1
  have h2 : B ^ (dig B v).length ≤ B ^ 64 := Nat.pow_le_pow_right (by omega) hle
  exact absurd (Nat.lt_of_lt_of_le h1 h2) (Nat.not_lt.2 h)
theorem ones_over (k : Nat) (hk : 1290 ≤ k) (hk2 : k ≤ 1300) {n' : Bool} {e' : Int} {L : List Nat} {er : Int} (h : ParseOut (List.replicate k 49) n' e' L er) : er = 2 := by
  obtain ⟨j, rfl⟩ : ∃ j, k = j + 1 := ⟨k - 1, by omega⟩
  unfold ParseOut at h
  rw [form_ones j hk2] at h
  have hg : (2 ^ 64) ^ 64 ≤ dv (List.replicate (j + 1) 49) := Nat.le_trans (ten_long (by omega)) (ones_great j)
  have ho : dv (List.replicate (j + 1) 49) % 2 = 1 := by rw [dv_ones]; omega
  generalize dv (List.replicate (j + 1) 49) = v at h hg ho
  rcases h with ⟨h0, _⟩ | ⟨z, hz, h⟩
  · subst h0; simp at ho
  · obtain rfl := hz.eq (tz_odd ho)
    rcases h with ⟨_, _, _, _, h⟩ | ⟨_, _, h, _⟩
    · exact h
    · exfalso
      rw [Nat.pow_zero, Nat.div_one] at h
      have hl := long_dig (by decide) hg
      unfold IsNum at h
      rw [if_neg (fun e => by rw [e] at hl; simp at hl)] at h
      omega
theorem ones_none (k : Nat) (hk : 1300 < k) {n' : Bool} {e' : Int} {L : List Nat} {er : Int} (h : ParseOut (List.replicate k 49) n' e' L er) : er = 5 := by
  unfold ParseOut at h
  rw [form_long k hk] at h
  exact h.2.2.2
/-- a text of '3p', a sign perhaps, and a number -/
def expS (low : Bool) (n : Nat) : List UInt8 := [51, 112] ++ ((if low = true then [45] else []) ++ dec n)
theorem minus_dec (n : Nat) : minus (dec n) = (false, dec n) := by
  have hl1 := dec_len_pos n
  have := minus_dig (dec n) (dec_all n) [] (fun e' => by rw [e'] at hl1; simp at hl1)
  rwa [List.append_nil] at this
theorem minus_exp (low : Bool) (n : Nat) : minus ((if low = true then [45] else []) ++ dec n) = (low, dec n) := by
  cases low
  · exact minus_dec n
  · rfl
theorem digN_dec (n : Nat) : digN (dec n) = (dec n).length := by
  have hd := digN_app (dec n) [] (dec_all n)
  rw [List.append_nil] at hd
  simpa [digN] using hd
theorem dec_zero_head : (dec 0).headD 0 = 48 := by rw [dec_low (by decide)]; rfl
theorem dec_long {n : Nat} (h : 1000000 ≤ n) : 6 < (dec n).length := by
  refine Nat.lt_of_not_le fun hle => ?_
  have h1 := dv_lt (dec n) (dec_all n)
  rw [dv_dec] at h1
  have h2 : (10 : Nat) ^ (dec n).length ≤ 10 ^ 6 := Nat.pow_le_pow_right (by decide) hle
  have h3 : (10 : Nat) ^ 6 = 1000000 := rfl
  omega
theorem dec_short {n : Nat} (h : n < 1000000) : (dec n).length ≤ 6 := dec_len 6 n (by have h3 : (10 : Nat) ^ 6 = 1000000 := rfl; omega) (by decide)
theorem form_expS (low : Bool) (n : Nat) : form (expS low n) = if n = 0 ∨ 1000000 ≤ n then none else some (false, 3, if low = true then -(n : Int) else (n : Int)) := by
  have hm : minus (expS low n) = (false, expS low n) := rfl
  have hd : digN (expS low n) = 1 := rfl
  have hdr : (expS low n).drop 1 = 112 :: ((if low = true then [45] else []) ++ dec n) := rfl
  have htk : (expS low n).take 1 = [51] := rfl
  have hh : ¬ ((expS low n).headD 0 = 48) := by show ¬ ((51 : UInt8) = 48); decide
  unfold form
  rw [hm]
  simp only
  rw [hd, if_neg (by rintro (h | h | ⟨h, _⟩) <;> first | omega | exact hh h), hdr, htk, expo, if_neg (by simp), minus_exp]
  simp only
  have hl1 := dec_len_pos n
  have hdn := digN_dec n
  by_cases h0 : n = 0
  · subst h0
    rw [if_pos (.inr (.inr (.inr dec_zero_head))), if_pos (.inl rfl)]
  · by_cases h6 : 1000000 ≤ n
    · rw [if_pos (.inr (.inl (dec_long h6))), if_pos (.inr h6)]
    · have hs := dec_short (n := n) (by omega)
      have hhd := dec_head n h0
      rw [if_neg (by rintro (h | h | h | h) <;> first | omega | exact hhd h), if_neg (show ¬ (n = 0 ∨ 1000000 ≤ n) by omega), dv_dec]
      rfl
theorem dig3' : dig (2 ^ 64) 3 = [3] := by rw [dig_step (by decide) (by decide)]; rfl
/-- what comes of such a text -/
theorem expS_out (low : Bool) (n : Nat) {n' : Bool} {e' : Int} {L : List Nat} {er : Int} (h : ParseOut (expS low n) n' e' L er) :
    ((n = 0 ∨ 1000000 ≤ n) ∧ er = 5) ∨ (n ≠ 0 ∧ n < 1000000 ∧ 65536 < n ∧ er = 2) ∨ (n ≠ 0 ∧ n ≤ 65536 ∧ er = 0 ∧ e' = if low = true then -(n : Int) else (n : Int)) := by
  unfold ParseOut at h
  rw [form_expS] at h
  by_cases hb : n = 0 ∨ 1000000 ≤ n
  · rw [if_pos hb] at h
    exact .inl ⟨hb, h.2.2.2⟩
  · rw [if_neg hb] at h
    have hn0 : n ≠ 0 := fun e => hb (.inl e)
    have hn6 : n < 1000000 := Nat.lt_of_not_le fun e => hb (.inr e)
    simp only at h
    rcases h with ⟨h0, _⟩ | ⟨z, hz, h⟩
    · exact absurd h0 (by decide)
    · obtain rfl := hz.eq (tz_odd (v := 3) rfl)
      rw [Nat.pow_zero, Nat.div_one, dig3'] at h
      have hIs : ∀ e : Int, IsNum false e [3] ↔ -65536 ≤ e ∧ e ≤ 65536 := fun e => by
        unfold IsNum
        rw [if_neg (by simp), show trimL [3] = [3] from rfl]
        simp
      rw [hIs] at h
      right
      rcases h with ⟨h1, _, _, _, h5⟩ | ⟨h1, h2, h3, h4, h5, h6, h7⟩
      · left
        refine ⟨hn0, hn6, ?_, h5⟩
        cases low <;> simp at h1 <;> omega
      · right
        refine ⟨hn0, ?_, h7, by simpa using h5⟩
        cases low <;> simp at h3 <;> omega
end Go.Proofs.YtmocmkfpblakbaaDoor
