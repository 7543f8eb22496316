/- Plain laws of decimal digits: a number's digits by parts of k digits; a text's value; the form of a number's text. No condition. -/
import Derived.Test.YtmocmkfpblakbaaDoorWordsM2
import Derived.Lib.ItoaNum
namespace Go.Proofs.YtmocmkfpblakbaaDoor
namespace DecM
open WordsM

/-- a number's decimal digits -/
abbrev dec (n : Nat) : List UInt8 := Lib.decDigits n
/-- the last k decimal digits -/
def pd : Nat → Nat → List UInt8
  | 0, _ => []
  | k + 1, r => pd k (r / 10) ++ [UInt8.ofNat (48 + r % 10)]
theorem dec_low {n : Nat} (h : n < 10) : dec n = [UInt8.ofNat (48 + n)] := by
  rw [dec, Lib.decDigits, dif_pos h]
theorem dec_high {n : Nat} (h : ¬ n < 10) : dec n = dec (n / 10) ++ [UInt8.ofNat (48 + n % 10)] := by
  rw [dec, Lib.decDigits, dif_neg h]
theorem pd_len : ∀ k r, (pd k r).length = k
  | 0, _ => rfl
  | k + 1, r => by simp [pd, pd_len k]
theorem dec_pd (q : Nat) (hq : 0 < q) : ∀ k r, r < 10 ^ k → dec (q * 10 ^ k + r) = dec q ++ pd k r
  | 0, r, h => by
    obtain rfl : r = 0 := by simpa using h
    simp [pd]
  | k + 1, r, h => by
    have hp : 10 ≤ q * 10 ^ (k + 1) := by
      have h1 : 1 ≤ 10 ^ k := Nat.pow_pos (by decide)
      have h2 : 1 * 1 ≤ q * 10 ^ k := Nat.mul_le_mul hq h1
      rw [Nat.pow_succ, ← Nat.mul_assoc]; omega
    have e1 : (q * 10 ^ (k + 1) + r) / 10 = q * 10 ^ k + r / 10 := by
      rw [Nat.pow_succ, ← Nat.mul_assoc]; omega
    have e2 : (q * 10 ^ (k + 1) + r) % 10 = r % 10 := by
      rw [Nat.pow_succ, ← Nat.mul_assoc]; omega
    have h3 : r / 10 < 10 ^ k := by rw [Nat.pow_succ] at h; omega
    rw [dec_high (by omega), e1, e2, dec_pd q hq k (r / 10) h3, pd, List.append_assoc]
theorem pd_zero : ∀ k, pd k 0 = List.replicate k 48
  | 0 => rfl
  | k + 1 => by
    rw [pd, Nat.zero_div, pd_zero k, List.replicate_succ']; rfl
theorem dec_len_pos (n : Nat) : 1 ≤ (dec n).length := by
  by_cases h : n < 10
  · rw [dec_low h]; simp
  · rw [dec_high h]; simp
theorem dec_len (j : Nat) : ∀ n, n < 10 ^ j → 1 ≤ j → (dec n).length ≤ j := by
  induction j with
  | zero => intro n _ h; omega
  | succ j ih =>
    intro n hn _
    by_cases h : n < 10
    · rw [dec_low h]; simp
    · rw [dec_high h]
      have hj : 1 ≤ j := by
        rcases Nat.eq_zero_or_pos j with rfl | h1
        · simp at hn; omega
        · exact h1
      have := ih (n / 10) (by rw [Nat.pow_succ] at hn; omega) hj
      simp only [List.length_append, List.length_singleton]
      omega
/-- digits with noughts ahead -/
theorem pd_dec : ∀ k r, 1 ≤ k → r < 10 ^ k → pd k r = List.replicate (k - (dec r).length) 48 ++ dec r
  | 0, _, h, _ => by omega
  | k + 1, r, _, hr => by
    by_cases h : r < 10
    · rw [dec_low h, pd, Nat.div_eq_of_lt h, Nat.mod_eq_of_lt h, pd_zero]; simp
    · have hk : 1 ≤ k := by
        rcases Nat.eq_zero_or_pos k with rfl | h1
        · simp at hr; omega
        · exact h1
      rw [pd, pd_dec k (r / 10) hk (by rw [Nat.pow_succ] at hr; omega), dec_high h, List.append_assoc]
      simp
/-- a text's value, if it is of decimal digits -/
def dv (l : List UInt8) : Nat := l.foldl (fun a b => 10 * a + (b.toNat - 48)) 0
theorem dv_from (l : List UInt8) : ∀ a, l.foldl (fun a b => 10 * a + (b.toNat - 48)) a = a * 10 ^ l.length + dv l := by
  induction l with
  | nil => intro a; simp [dv]
  | cons c r ih =>
    intro a
    have h1 := ih (10 * a + (c.toNat - 48))
    have h2 := ih (10 * 0 + (c.toNat - 48))
    simp only [List.foldl_cons, dv, List.length_cons, Nat.pow_succ] at h1 h2 ⊢
    rw [h1, h2, Nat.add_mul, Nat.add_mul, Nat.mul_comm 10 a, Nat.mul_assoc, Nat.mul_comm 10 (10 ^ r.length)]
    omega
theorem dv_append (l r : List UInt8) : dv (l ++ r) = dv l * 10 ^ r.length + dv r := by
  rw [dv, List.foldl_append]
  exact dv_from r _
theorem dv_snoc (l : List UInt8) (c : UInt8) : dv (l ++ [c]) = 10 * dv l + (c.toNat - 48) := by
  rw [dv_append]; simp [dv]; omega
theorem digit_byte (d : Nat) (h : d < 10) : (UInt8.ofNat (48 + d)).toNat = 48 + d := by
  rw [UInt8.toNat_ofNat']; omega
theorem dv_dec (n : Nat) : dv (dec n) = n := by
  induction n using Nat.strongRecOn with
  | ind n ih =>
    by_cases h : n < 10
    · rw [dec_low h]; simp [dv]; omega
    · rw [dec_high h, dv_snoc, ih (n / 10) (by omega), digit_byte _ (Nat.mod_lt _ (by decide))]; omega
/-- decimal digits alone -/
def allD (l : List UInt8) : Prop := ∀ c ∈ l, 48 ≤ c.toNat ∧ c.toNat ≤ 57
theorem dv_lt (l : List UInt8) (h : allD l) : dv l < 10 ^ l.length := by
  rcases List.eq_nil_or_concat l with rfl | ⟨r, c, rfl⟩
  · simp [dv]
  · rw [List.concat_eq_append] at h ⊢
    have h1 := dv_lt r fun x hx => h x (by simp [hx])
    have h2 := h c (by simp)
    rw [dv_snoc, List.length_append, List.length_singleton, Nat.pow_succ]; omega
termination_by l.length
decreasing_by simp_all
theorem dec_all (n : Nat) : allD (dec n) := by
  induction n using Nat.strongRecOn with
  | ind n ih =>
    intro c hc
    by_cases h : n < 10
    · rw [dec_low h, List.mem_singleton] at hc; subst hc; rw [digit_byte n h]; omega
    · rw [dec_high h] at hc
      rcases List.mem_append.1 hc with hc | hc
      · exact ih (n / 10) (by omega) c hc
      · rw [List.mem_singleton] at hc; subst hc; rw [digit_byte _ (Nat.mod_lt _ (by decide))]; omega
/-- no nought ahead, unless the number is 0 -/
theorem dec_head (n : Nat) (hn : n ≠ 0) : (dec n).headD 0 ≠ 48 := by
  induction n using Nat.strongRecOn with
  | ind n ih =>
    by_cases h : n < 10
    · rw [dec_low h]
      show UInt8.ofNat (48 + n) ≠ 48
      intro e
      have := congrArg UInt8.toNat e
      rw [digit_byte n h] at this
      have h2 : (48 : UInt8).toNat = 48 := rfl
      omega
    · rw [dec_high h]
      have h1 := ih (n / 10) (by omega) (by omega)
      have h2 := dec_len_pos (n / 10)
      cases hd : dec (n / 10) with
      | nil => rw [hd] at h2; simp at h2
      | cons x r => rw [hd] at h1; simpa using h1
/-- how many digits a text begins with -/
def digN : List UInt8 → Nat
  | [] => 0
  | c :: r => if 48 ≤ c.toNat ∧ c.toNat ≤ 57 then digN r + 1 else 0
theorem digN_le : ∀ l, digN l ≤ l.length
  | [] => Nat.le_refl _
  | c :: r => by
    have := digN_le r
    simp only [digN, List.length_cons]
    split <;> omega
theorem digN_spec : ∀ (l : List UInt8) (k : Nat), k ≤ l.length → (∀ j c, l[j]? = some c → j < k → 48 ≤ c.toNat ∧ c.toNat ≤ 57) → (∀ c, l[k]? = some c → ¬ (48 ≤ c.toNat ∧ c.toNat ≤ 57)) → digN l = k
  | [], k, h, _, _ => by simp at h; simp [digN, h]
  | c :: r, 0, _, _, h3 => by
    have := h3 c rfl
    simp [digN, this]
  | c :: r, k + 1, h1, h2, h3 => by
    have hc := h2 0 c rfl (by omega)
    have := digN_spec r k (by simpa using h1) (fun j x hx hj => h2 (j + 1) x (by simpa using hx) (by omega)) (fun x hx => h3 x (by simpa using hx))
    simp [digN, hc, this]
theorem digN_take : ∀ l : List UInt8, allD (l.take (digN l))
  | [] => fun c hc => by simp at hc
  | c :: r => by
    simp only [digN]
    split
    · rename_i h
      intro x hx
      rw [List.take_succ_cons] at hx
      rcases List.mem_cons.1 hx with rfl | hx
      · exact h
      · exact digN_take r x hx
    · intro x hx; simp at hx
theorem digN_at : ∀ (l : List UInt8) (c : UInt8), l[digN l]? = some c → ¬ (48 ≤ c.toNat ∧ c.toNat ≤ 57)
  | [], c, h => by simp at h
  | x :: r, c, h => by
    simp only [digN] at h
    split at h
    · exact digN_at r c (by simpa using h)
    · rename_i h1
      simp only [List.getElem?_cons_zero, Option.some.injEq] at h
      subst h; exact h1
theorem digN_app (l r : List UInt8) (h : allD l) : digN (l ++ r) = l.length + digN r := by
  induction l with
  | nil => simp
  | cons c l ih =>
    have h1 := h c (by simp)
    have h2 := ih fun x hx => h x (by simp [hx])
    simp [digN, h1, h2]; omega
/-- a sign ahead cut off -/
def minus : List UInt8 → Bool × List UInt8
  | [] => (false, [])
  | c :: r => if c = 45 then (true, r) else (false, c :: r)
/-- what stands behind the digits -/
def expo : List UInt8 → Option Int
  | [] => some 0
  | c :: r => if c ≠ 112 then none else
    if (minus r).2.length < 1 ∨ 6 < (minus r).2.length ∨ digN (minus r).2 < (minus r).2.length ∨ (minus r).2.headD 0 = 48 then none
    else some (if (minus r).1 = true then -(dv (minus r).2 : Int) else (dv (minus r).2 : Int))
/-- a number's text taken apart: sign, digits' value, exponent -/
def form (s : List UInt8) : Option (Bool × Nat × Int) :=
  if digN (minus s).2 < 1 ∨ 1300 < digN (minus s).2 ∨ ((minus s).2.headD 0 = 48 ∧ ((minus s).1 = true ∨ 1 < (minus s).2.length)) then none
  else match expo ((minus s).2.drop (digN (minus s).2)) with
    | none => none
    | some e => some ((minus s).1, dv ((minus s).2.take (digN (minus s).2)), e)
theorem minus_dig (l : List UInt8) (h : allD l) (r : List UInt8) (hl : l ≠ []) : minus (l ++ r) = (false, l ++ r) := by
  cases l with
  | nil => exact absurd rfl hl
  | cons c l =>
    have h1 := h c (by simp)
    have h2 : c ≠ 45 := by
      rintro rfl
      have : (45 : UInt8).toNat = 45 := rfl
      omega
    simp [minus, h2]
/-- an exponent's text -/
def expT (e : Int) : List UInt8 := if e = 0 then [] else 112 :: (if e < 0 then 45 :: dec e.natAbs else dec e.natAbs)
theorem expo_expT (e : Int) (h : -65536 ≤ e) (h2 : e ≤ 65536) : expo (expT e) = some e := by
  unfold expT
  by_cases h0 : e = 0
  · rw [if_pos h0, h0]; rfl
  · rw [if_neg h0]
    have hna : e.natAbs ≠ 0 := by omega
    have hl1 := dec_len_pos e.natAbs
    have hl2 := dec_len 6 e.natAbs (by have : (10 : Nat) ^ 6 = 1000000 := rfl; omega) (by decide)
    have hd := digN_app (dec e.natAbs) [] (dec_all _)
    rw [List.append_nil] at hd
    simp only [digN, Nat.add_zero] at hd
    have hh := dec_head e.natAbs hna
    by_cases hneg : e < 0
    · rw [if_pos hneg]
      have hm : minus (45 :: dec e.natAbs) = (true, dec e.natAbs) := rfl
      rw [expo, if_neg (by simp), hm]
      simp only
      rw [if_neg (by rintro (h | h | h | h) <;> first | omega | exact hh h), if_pos trivial, dv_dec]
      congr 1; omega
    · rw [if_neg hneg]
      have hm : minus (dec e.natAbs) = (false, dec e.natAbs) := by
        have := minus_dig (dec e.natAbs) (dec_all _) [] (fun e' => by rw [e'] at hl1; simp at hl1)
        rwa [List.append_nil] at this
      rw [expo, if_neg (by simp), hm]
      simp only
      rw [if_neg (by rintro (h | h | h | h) <;> first | omega | exact hh h), if_neg (by simp), dv_dec]
      congr 1; omega
theorem expT_stop (e : Int) : digN (expT e) = 0 := by
  unfold expT
  split
  · rfl
  · rw [digN, if_neg]; decide
/-- a number's text -/
def textN (neg : Bool) (v : Nat) (e : Int) : List UInt8 := (if neg = true then [45] else []) ++ (dec v ++ expT e)
theorem form_text (neg : Bool) (v : Nat) (e : Int) (h : -65536 ≤ e) (h2 : e ≤ 65536) (hv : v < 10 ^ 1300) (h0 : v = 0 → neg = false ∧ e = 0) : form (textN neg v e) = some (neg, v, e) := by
  have hl1 := dec_len_pos v
  have hl2 := dec_len 1300 v hv (by decide)
  have hne : dec v ≠ [] := fun e' => by rw [e'] at hl1; simp at hl1
  have hm : minus (textN neg v e) = (neg, dec v ++ expT e) := by
    cases neg
    · exact minus_dig (dec v) (dec_all v) (expT e) hne
    · rfl
  have hd := digN_app (dec v) (expT e) (dec_all v)
  rw [expT_stop, Nat.add_zero] at hd
  unfold form
  rw [hm]
  simp only
  rw [hd, List.drop_left, List.take_left, expo_expT e h h2, dv_dec, if_neg]
  rintro (h3 | h3 | ⟨h3, h4⟩)
  · omega
  · omega
  · have hh : (dec v ++ expT e).headD 0 = (dec v).headD 0 := by
      cases hc : dec v with
      | nil => exact absurd hc hne
      | cons x r => rfl
    rw [hh] at h3
    by_cases hv0 : v = 0
    · obtain ⟨h5, h6⟩ := h0 hv0
      subst hv0; subst h6
      rcases h4 with h4 | h4
      · rw [h5] at h4; cases h4
      · rw [dec_low (by decide)] at h4; simp [expT] at h4
    · exact dec_head v hv0 h3
end DecM
end Go.Proofs.YtmocmkfpblakbaaDoor
