/- Plain words on natural numbers as rows of 32 bits: their value, trimmed rows, division by ten. Plain. -/
import Derived.Lib.ItoaNum
namespace Go.Proofs.YtmocmkfpblakbaaDoor
namespace NatM
abbrev base32 : Nat := 4294967296
def val : List Nat → Nat
  | [] => 0
  | m :: r => m + base32 * val r
def trimL : List Nat → List Nat
  | [] => []
  | m :: r => match trimL r with
    | [] => if m = 0 then [] else [m]
    | x :: y => m :: x :: y
def small (l : List Nat) : Prop := ∀ m ∈ l, m < base32
theorem val_append (a b : List Nat) : val (a ++ b) = val a + base32 ^ a.length * val b := by
  induction a with
  | nil => simp [val]
  | cons m r ih =>
    simp only [List.cons_append, val, List.length_cons, ih]
    rw [Nat.mul_add, Nat.pow_succ, Nat.mul_comm (base32 ^ r.length) base32, Nat.mul_assoc]
    omega
theorem val_trim : ∀ l : List Nat, val (trimL l) = val l
  | [] => rfl
  | m :: r => by
    have ih := val_trim r
    simp only [trimL, val]
    split
    · rename_i h
      rw [h] at ih
      split
      · rename_i h0; rw [h0, ← ih]; rfl
      · rw [← ih]; rfl
    · rename_i x y h
      rw [h] at ih
      simp only [val] at ih ⊢
      rw [ih]
theorem trim_snoc_zero : ∀ l : List Nat, trimL (l ++ [0]) = trimL l
  | [] => rfl
  | m :: r => by
    have ih := trim_snoc_zero r
    simp only [List.cons_append, trimL, ih]
theorem trim_snoc (m : Nat) (hm : m ≠ 0) : ∀ l : List Nat, trimL (l ++ [m]) = l ++ [m]
  | [] => by simp [trimL, hm]
  | x :: r => by
    have ih := trim_snoc m hm r
    simp only [List.cons_append, trimL, ih]
    cases h : r ++ [m] with
    | nil => simp at h
    | cons a b => rfl
theorem trim_take (l : List Nat) : trimL l = l.take (trimL l).length := by
  induction l with
  | nil => rfl
  | cons m r ih =>
    simp only [trimL]
    cases h : trimL r with
    | nil =>
      simp only
      split <;> simp
    | cons x y =>
      simp only
      rw [h] at ih
      rw [List.length_cons, List.take_succ_cons, ← ih]
theorem trim_len (l : List Nat) : (trimL l).length ≤ l.length := by
  rw [trim_take]; exact List.length_take_le' _ _
theorem trim_small {l : List Nat} (h : small l) : small (trimL l) := by
  intro m hm
  rw [trim_take] at hm
  exact h m (List.mem_of_mem_take hm)
theorem trim_zero : ∀ l : List Nat, trimL l = [] ↔ val l = 0
  | [] => by simp [trimL, val]
  | m :: r => by
    have ih := trim_zero r
    simp only [trimL, val]
    cases h : trimL r with
    | nil =>
      have := ih.1 h
      rw [this]
      simp only
      split
      · rename_i h0; simp [h0]
      · rename_i h0; simp [h0]
    | cons x y =>
      have : val r ≠ 0 := fun e => by rw [ih.2 e] at h; cases h
      simp only [reduceCtorEq, false_iff]
      have : 0 < val r := by omega
      show ¬ (m + 4294967296 * val r = 0)
      omega
/-- a row divided by ten, from above: the quotient's row, the rest -/
def div10 : List Nat → List Nat × Nat
  | [] => ([], 0)
  | m :: r => (((div10 r).2 * base32 + m) / 10 :: (div10 r).1, ((div10 r).2 * base32 + m) % 10)
theorem div10_len : ∀ l : List Nat, (div10 l).1.length = l.length
  | [] => rfl
  | m :: r => by simp [div10, div10_len r]
theorem div10_rest : ∀ l : List Nat, (div10 l).2 < 10
  | [] => by decide
  | m :: r => Nat.mod_lt _ (by decide)
theorem div10_val : ∀ l : List Nat, val l = 10 * val (div10 l).1 + (div10 l).2
  | [] => rfl
  | m :: r => by
    have ih := div10_val r
    simp only [div10, val]
    rw [ih]
    have := Nat.div_add_mod ((div10 r).2 * 4294967296 + m) 10
    show m + 4294967296 * (10 * val (div10 r).1 + (div10 r).2) = 10 * (((div10 r).2 * 4294967296 + m) / 10 + 4294967296 * val (div10 r).1) + ((div10 r).2 * 4294967296 + m) % 10
    omega
theorem div10_small : ∀ {l : List Nat}, small l → small (div10 l).1
  | [], _ => fun m hm => by cases hm
  | m :: r, h => by
    have ih := div10_small (l := r) fun x hx => h x (by simp [hx])
    have h1 : m < 4294967296 := h m (by simp)
    have h2 := div10_rest r
    intro x hx
    rcases List.mem_cons.1 hx with rfl | hx
    · show ((div10 r).2 * 4294967296 + m) / 10 < 4294967296
      omega
    · exact ih x hx
/-- the two halves of a word -/
def halves (ws : List Nat) : List Nat := ws.flatMap fun w => [w % base32, w / base32]
theorem halves_small {ws : List Nat} (h : ∀ w ∈ ws, w < 18446744073709551616) : small (halves ws) := by
  intro m hm
  obtain ⟨w, hw, hm⟩ := List.mem_flatMap.1 hm
  have := h w hw
  show m < 4294967296
  rcases List.mem_cons.1 hm with rfl | hm
  · exact Nat.mod_lt _ (by decide)
  · rw [List.mem_singleton] at hm
    subst hm
    show w / 4294967296 < _
    omega
theorem halves_len (ws : List Nat) : (halves ws).length = 2 * ws.length := by
  induction ws with
  | nil => rfl
  | cons w r ih => simp only [halves, List.flatMap_cons, List.length_append, List.length_cons, List.length_nil] at ih ⊢; omega
theorem halves_one (w : Nat) : val (halves [w]) = w := by
  show w % 4294967296 + 4294967296 * (w / 4294967296 + 4294967296 * 0) = w
  omega
/-- a digit's turn of the document's Decimal -/
theorem dec_turn (N v : Nat) (s : List UInt8) (h : Lib.decDigits N = Lib.decDigits v ++ s) : Lib.decDigits N = (if v / 10 = 0 then [] else Lib.decDigits (v / 10)) ++ (UInt8.ofNat (48 + v % 10) :: s) := by
  rw [h]
  have : Lib.decDigits v = (if v / 10 = 0 then [] else Lib.decDigits (v / 10)) ++ [UInt8.ofNat (48 + v % 10)] := by
    rw [Lib.decDigits]
    split
    · rename_i h1
      rw [if_pos (by omega), Nat.mod_eq_of_lt h1]; rfl
    · rw [if_neg (by omega)]
  rw [this]; simp
theorem val_lt : ∀ {l : List Nat}, small l → val l < base32 ^ l.length
  | [], _ => by simp [val]
  | m :: r, h => by
    have ih := val_lt (l := r) fun x hx => h x (by simp [hx])
    have h1 : m < 4294967296 := h m (by simp)
    simp only [val, List.length_cons, Nat.pow_succ]
    rw [Nat.mul_comm (base32 ^ r.length)]
    have h2 : base32 * (val r + 1) ≤ base32 * base32 ^ r.length := Nat.mul_le_mul_left _ ih
    rw [Nat.mul_add] at h2
    show m + 4294967296 * val r < _
    have h3 : base32 * val r + base32 * 1 = 4294967296 * val r + 4294967296 := rfl
    omega
theorem dec_len (j : Nat) : ∀ n, n < 10 ^ j → 1 ≤ j → (Lib.decDigits n).length ≤ j := by
  induction j with
  | zero => intro n _ h; omega
  | succ j ih =>
    intro n hn _
    rw [Lib.decDigits]
    split
    · simp
    · have hj : 1 ≤ j := by
        rcases Nat.eq_zero_or_pos j with rfl | h
        · simp at hn; omega
        · exact h
      have := ih (n / 10) (by rw [Nat.pow_succ] at hn; omega) hj
      simp only [List.length_append, List.length_singleton]
      omega
theorem dec_val_len {l : List Nat} (h : small l) : (Lib.decDigits (val l)).length ≤ 10 * l.length + 1 := by
  refine dec_len _ _ ?_ (by omega)
  refine Nat.lt_of_lt_of_le (val_lt h) ?_
  rw [Nat.pow_succ, Nat.pow_mul]
  refine Nat.le_trans (Nat.pow_le_pow_left (show base32 ≤ 10 ^ 10 by decide) _) ?_
  omega
end NatM
end Go.Proofs.YtmocmkfpblakbaaDoor
