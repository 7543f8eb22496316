/- Numbers by digits of a base, the lowest first: their value, the right digits of a value, digits without noughts at their end. Plain. -/
namespace Go.Proofs.YtmocmkfpblakbaaDoor
namespace WordsM
/-- the value of digits -/
def val (B : Nat) : List Nat → Nat
  | [] => 0
  | x :: r => x + B * val B r
/-- the right digits of a value, at most k -/
def digs (B : Nat) : Nat → Nat → List Nat
  | 0, _ => []
  | k + 1, n => if n = 0 then [] else n % B :: digs B k (n / B)
/-- the right digits of a value -/
def dig (B n : Nat) : List Nat := digs B n n
/-- without noughts at the end -/
def trimL (l : List Nat) : List Nat := (l.reverse.dropWhile (· == 0)).reverse
/-- digits are below the base -/
def Low (B : Nat) (l : List Nat) : Prop := ∀ x ∈ l, x < B
/-- right digits: no nought at the end -/
def NoNought (l : List Nat) : Prop := ∀ x, l.getLast? = some x → x ≠ 0
section
variable {B : Nat}
theorem val_append (l r : List Nat) : val B (l ++ r) = val B l + B ^ l.length * val B r := by
  induction l with
  | nil => simp [val]
  | cons x l ih =>
    simp only [List.cons_append, val, ih, List.length_cons, Nat.pow_succ, Nat.mul_add]
    rw [Nat.mul_comm (B ^ l.length) B, Nat.mul_assoc, Nat.add_assoc]
theorem val_snoc (l : List Nat) (x : Nat) : val B (l ++ [x]) = val B l + B ^ l.length * x := by rw [val_append]; simp [val]
theorem val_lt (_hB : 0 < B) (l : List Nat) (h : Low B l) : val B l < B ^ l.length := by
  induction l with
  | nil => simp [val]
  | cons x r ih =>
    have h1 := h x (by simp)
    have h2 := ih fun y hy => h y (by simp [hy])
    simp only [val, List.length_cons, Nat.pow_succ]
    have h3 : B * (val B r + 1) ≤ B * B ^ r.length := Nat.mul_le_mul_left B h2
    rw [Nat.mul_add, Nat.mul_one] at h3
    rw [Nat.mul_comm (B ^ r.length) B]; omega
theorem digs_more (hB : 2 ≤ B) : ∀ (k n j : Nat), n ≤ k → n ≤ j → digs B k n = digs B j n := by
  intro k
  induction k with
  | zero => intro n j h1 h2; obtain rfl : n = 0 := by omega
            cases j <;> simp [digs]
  | succ k ih =>
    intro n j h1 h2
    cases j with
    | zero => obtain rfl : n = 0 := by omega
              simp [digs]
    | succ j =>
      simp only [digs]
      by_cases h0 : n = 0
      · simp [h0]
      · rw [if_neg h0, if_neg h0]
        have h3 : n / B < n := Nat.div_lt_self (by omega) (by omega)
        rw [ih (n / B) j (by omega) (by omega)]
theorem dig_zero : dig B 0 = [] := rfl
theorem dig_step (hB : 2 ≤ B) {n : Nat} (h : n ≠ 0) : dig B n = n % B :: dig B (n / B) := by
  unfold dig
  cases n with
  | zero => exact absurd rfl h
  | succ n =>
    have h3 : (n + 1) / B < n + 1 := Nat.div_lt_self (by omega) (by omega)
    simp only [digs, if_neg h]
    rw [digs_more hB n ((n + 1) / B) ((n + 1) / B) (by omega) (by omega)]
theorem val_dig (hB : 2 ≤ B) (n : Nat) : val B (dig B n) = n := by
  induction n using Nat.strongRecOn with
  | ind n ih =>
    by_cases h0 : n = 0
    · subst h0; rfl
    · rw [dig_step hB h0]
      have h3 : n / B < n := Nat.div_lt_self (by omega) (by omega)
      simp only [val, ih _ h3]
      exact Nat.mod_add_div n B
theorem dig_low (hB : 2 ≤ B) (n : Nat) : Low B (dig B n) := by
  induction n using Nat.strongRecOn with
  | ind n ih =>
    by_cases h0 : n = 0
    · subst h0; intro x hx; simp [dig_zero] at hx
    · rw [dig_step hB h0]
      intro x hx
      rcases List.mem_cons.1 hx with rfl | hx
      · exact Nat.mod_lt _ (by omega)
      · exact ih _ (Nat.div_lt_self (by omega) (by omega)) x hx
theorem dig_last (hB : 2 ≤ B) (n : Nat) : NoNought (dig B n) := by
  induction n using Nat.strongRecOn with
  | ind n ih =>
    by_cases h0 : n = 0
    · subst h0; intro x hx; simp [dig_zero] at hx
    · rw [dig_step hB h0]
      intro x hx
      by_cases h1 : n / B = 0
      · rw [h1, dig_zero] at hx
        simp at hx
        subst hx
        have := Nat.div_add_mod n B
        rw [h1] at this
        omega
      · have h2 := dig_step hB h1
        rw [List.getLast?_cons, h2] at hx
        refine ih (n / B) (Nat.div_lt_self (Nat.pos_of_ne_zero h0) hB) x ?_
        rw [h2]
        simp only [List.getLast?_cons] at hx ⊢
        simpa using hx
/-- right digits are the digits of their value -/
theorem dig_val (hB : 2 ≤ B) : ∀ (l : List Nat), Low B l → NoNought l → dig B (val B l) = l := by
  intro l
  induction l with
  | nil => intro _ _; rfl
  | cons x r ih =>
    intro hl hn
    have hx := hl x (by simp)
    have hr : Low B r := fun y hy => hl y (by simp [hy])
    by_cases h0 : r = []
    · subst h0
      have hx0 : x ≠ 0 := hn x (by simp)
      simp only [val, Nat.mul_zero, Nat.add_zero]
      rw [dig_step hB hx0, Nat.mod_eq_of_lt hx, Nat.div_eq_of_lt hx, dig_zero]
    · have hnr : NoNought r := fun y hy => hn y (by rw [List.getLast?_cons, hy]; rfl)
      have ih' := ih hr hnr
      have hv : val B r ≠ 0 := fun e => by rw [e, dig_zero] at ih'; exact h0 ih'.symm
      have hpos : 0 < B * val B r := Nat.mul_pos (by omega) (by omega)
      have hne : val B (x :: r) ≠ 0 := by simp only [val]; omega
      rw [dig_step hB hne]
      simp only [val]
      rw [Nat.add_mul_mod_self_left, Nat.mod_eq_of_lt hx, Nat.add_mul_div_left _ _ (by omega), Nat.div_eq_of_lt hx, Nat.zero_add, ih']
theorem trimL_snoc_zero (l : List Nat) : trimL (l ++ [0]) = trimL l := by simp [trimL]
theorem trimL_snoc (l : List Nat) {x : Nat} (h : x ≠ 0) : trimL (l ++ [x]) = l ++ [x] := by simp [trimL, h]
theorem trimL_right (l : List Nat) (h : NoNought l) : trimL l = l := by
  rcases List.eq_nil_or_concat l with rfl | ⟨r, x, rfl⟩
  · rfl
  · rw [List.concat_eq_append] at h ⊢
    exact trimL_snoc _ (h x (by simp))
theorem trimL_pre (l : List Nat) : ∃ k, l = trimL l ++ List.replicate k 0 := by
  induction h : l.length generalizing l with
  | zero => obtain rfl := List.length_eq_zero_iff.1 h; exact ⟨0, rfl⟩
  | succ n ih =>
    rcases List.eq_nil_or_concat l with rfl | ⟨r, x, rfl⟩
    · simp at h
    · rw [List.concat_eq_append] at h ⊢
      by_cases h0 : x = 0
      · subst h0
        obtain ⟨k, hk⟩ := ih r (by simpa using h)
        refine ⟨k + 1, ?_⟩
        rw [trimL_snoc_zero]
        calc r ++ [0] = (trimL r ++ List.replicate k 0) ++ [0] := by rw [← hk]
          _ = _ := by rw [List.append_assoc, List.replicate_succ']
      · exact ⟨0, by rw [trimL_snoc _ h0]; simp⟩
theorem val_zeros (k : Nat) : val B (List.replicate k 0) = 0 := by
  induction k with
  | zero => rfl
  | succ k ih => simp [List.replicate_succ, val, ih]
theorem val_trim (l : List Nat) : val B (trimL l) = val B l := by
  obtain ⟨k, hk⟩ := trimL_pre l
  have := congrArg (val B) hk
  rw [val_append, val_zeros, Nat.mul_zero, Nat.add_zero] at this
  exact this.symm
theorem trim_last (l : List Nat) : NoNought (trimL l) := by
  intro x hx h0
  subst h0
  unfold trimL at hx
  rw [List.getLast?_reverse] at hx
  have : ∀ m : List Nat, (m.dropWhile (· == 0)).head? ≠ some 0 := by
    intro m
    induction m with
    | nil => simp
    | cons y r ih =>
      by_cases hy : y = 0
      · subst hy; simpa using ih
      · simp [hy]
  exact this _ hx
theorem trim_low {l : List Nat} (h : Low B l) : Low B (trimL l) := by
  obtain ⟨k, hk⟩ := trimL_pre l
  intro x hx
  exact h x (by rw [hk]; simp [hx])
theorem trim_dig (hB : 2 ≤ B) {l : List Nat} (h : Low B l) : trimL l = dig B (val B l) := by
  rw [← val_trim l, dig_val hB _ (trim_low h) (trim_last l)]
theorem trim_len (l : List Nat) : (trimL l).length ≤ l.length := by
  obtain ⟨k, hk⟩ := trimL_pre l
  have := congrArg List.length hk
  simp at this; omega
theorem trim_take (l : List Nat) : l.take (trimL l).length = trimL l := by
  obtain ⟨k, hk⟩ := trimL_pre l
  calc l.take (trimL l).length = (trimL l ++ List.replicate k 0).take (trimL l).length := by rw [← hk]
    _ = _ := by rw [List.take_left' rfl]
/-- how many digits: n lies below the base's power by their number, and not below the one before -/
theorem dig_len_le (hB : 2 ≤ B) {n k : Nat} (h : n < B ^ k) : (dig B n).length ≤ k := by
  induction k generalizing n with
  | zero => obtain rfl : n = 0 := by simpa using h
            simp [dig_zero]
  | succ k ih =>
    by_cases h0 : n = 0
    · subst h0; simp [dig_zero]
    · rw [dig_step hB h0, List.length_cons]
      have : n / B < B ^ k := Nat.div_lt_of_lt_mul (by rw [Nat.mul_comm]; rw [Nat.pow_succ] at h; exact h)
      have := ih this
      omega
theorem dig_nil (hB : 2 ≤ B) {n : Nat} : dig B n = [] ↔ n = 0 := by
  constructor
  · intro h
    have := val_dig hB n
    rw [h] at this
    exact this.symm
  · rintro rfl; rfl
end
end WordsM
end Go.Proofs.YtmocmkfpblakbaaDoor
