/- More of numbers by digits: one digit changed, shifts, noughts at the low end, decimal digits. Plain. -/
/- Plain laws of words that are shifted right. No condition. -/
import Derived.Test.YtmocmkfpblakbaaDoorWordsM
import Derived.Laws.BitsAllLaws
namespace Go.Proofs.YtmocmkfpblakbaaDoor
namespace WordsM
section
variable {B : Nat}
theorem val_set (l : List Nat) (i x y : Nat) (h : l[i]? = some y) : val B (l.set i x) + y * B ^ i = val B l + x * B ^ i := by
  induction l generalizing i with
  | nil => simp at h
  | cons z r ih =>
    cases i with
    | zero =>
      simp only [List.getElem?_cons_zero, Option.some.injEq] at h
      subst h
      simp only [List.set_cons_zero, val, Nat.pow_zero, Nat.mul_one]
      omega
    | succ i =>
      have ih' := ih i (by simpa using h)
      simp only [List.set_cons_succ, val, Nat.pow_succ]
      have e1 : y * (B ^ i * B) = B * (y * B ^ i) := by rw [← Nat.mul_assoc, Nat.mul_comm]
      have e2 : x * (B ^ i * B) = B * (x * B ^ i) := by rw [← Nat.mul_assoc, Nat.mul_comm]
      rw [e1, e2]
      have e3 : B * (val B (r.set i x) + y * B ^ i) = B * (val B r + x * B ^ i) := by rw [ih']
      rw [Nat.mul_add, Nat.mul_add] at e3
      omega
/-- a digit added with a carry -/
theorem add_step {L : List Nat} {i x b c S : Nat} (hx : L[i]? = some x) (h : val B L + c * B ^ i = S) : val B (L.set i ((x + b + c) % B)) + (x + b + c) / B * B ^ (i + 1) = S + b * B ^ i := by
  have h1 := val_set (B := B) L i ((x + b + c) % B) x hx
  have h2 := Nat.div_add_mod (x + b + c) B
  have h3 : (B * ((x + b + c) / B) + (x + b + c) % B) * B ^ i = (x + b + c) * B ^ i := by rw [h2]
  have h4 : (x + b + c) / B * B ^ (i + 1) = B * ((x + b + c) / B) * B ^ i := by rw [Nat.pow_succ, Nat.mul_comm (B ^ i) B, ← Nat.mul_assoc, Nat.mul_comm B]
  rw [Nat.add_mul] at h3
  rw [Nat.add_mul, Nat.add_mul] at h3
  omega
/-- a product's two words with two additions -/
theorem mul_step {B x y o c : Nat} (hB : 0 < B) (hx : x < B) (hy : y < B) (ho : o < B) (hc : c < B) :
    ((x * y % B + o) % B + c) % B = (o + x * y + c) % B ∧ x * y / B + (x * y % B + o) / B + ((x * y % B + o) % B + c) / B = (o + x * y + c) / B ∧ (o + x * y + c) / B < B := by
  have e1 := Nat.div_add_mod (x * y) B
  have e2 := Nat.div_add_mod (x * y % B + o) B
  have e3 := Nat.div_add_mod ((x * y % B + o) % B + c) B
  have h3 : ((x * y % B + o) % B + c) % B < B := Nat.mod_lt _ hB
  have hs : o + x * y + c = ((x * y % B + o) % B + c) % B + B * (x * y / B + (x * y % B + o) / B + ((x * y % B + o) % B + c) / B) := by
    rw [Nat.mul_add, Nat.mul_add]; omega
  refine ⟨?_, ?_, ?_⟩
  · rw [hs, Nat.add_mul_mod_self_left, Nat.mod_eq_of_lt h3]
  · rw [hs, Nat.add_mul_div_left _ _ hB, Nat.div_eq_of_lt h3, Nat.zero_add]
  · refine Nat.div_lt_of_lt_mul ?_
    have h4 : x * y ≤ (B - 1) * (B - 1) := Nat.mul_le_mul (by omega) (by omega)
    obtain ⟨d, rfl⟩ : ∃ d, B = d + 1 := ⟨B - 1, by omega⟩
    rw [Nat.add_sub_cancel] at h4
    have h5 : (d + 1) * (d + 1) = d * d + d + d + 1 := by rw [Nat.add_mul, Nat.mul_add]; omega
    omega
theorem low_set {l : List Nat} (h : Low B l) {i x : Nat} (hx : x < B) : Low B (l.set i x) := fun y hy => by
  rcases List.mem_or_eq_of_mem_set hy with h1 | rfl
  · exact h y h1
  · exact hx
theorem val_take_snoc (l : List Nat) (i x : Nat) (h : l[i]? = some x) : val B (l.take (i + 1)) = val B (l.take i) + B ^ i * x := by
  have hi : i < l.length := (List.getElem?_eq_some_iff.1 h).1
  rw [List.take_add_one, h, Option.toList_some, val_snoc, List.length_take, Nat.min_eq_left (by omega)]
theorem val_take_drop (l : List Nat) (i : Nat) : val B l = val B (l.take i) + B ^ i * val B (l.drop i) := by
  by_cases h : i ≤ l.length
  · have := val_append (B := B) (l.take i) (l.drop i)
    rw [List.take_append_drop, List.length_take, Nat.min_eq_left h] at this
    exact this
  · rw [List.take_of_length_le (by omega), List.drop_eq_nil_of_le (by omega)]; simp [val]
/-- a value without its low digits -/
theorem val_drop (hB : 0 < B) (l : List Nat) (hl : Low B l) (i : Nat) (h : i ≤ l.length) : val B (l.drop i) = val B l / B ^ i := by
  have h1 := val_take_drop (B := B) l i
  have h2 := val_lt hB (l.take i) fun x hx => hl x (List.mem_of_mem_take hx)
  rw [List.length_take, Nat.min_eq_left h] at h2
  rw [h1, Nat.add_mul_div_left _ _ (Nat.pow_pos hB), Nat.div_eq_of_lt h2, Nat.zero_add]
/-- each digit shifted right, the next one's low bits ahead of it: base 2^(s+t) -/
def shr (s t : Nat) : List Nat → List Nat
  | [] => []
  | x :: r => (x / 2 ^ s + (r.headD 0 * 2 ^ t) % 2 ^ (s + t)) :: shr s t r
theorem shr_len (s t : Nat) (l : List Nat) : (shr s t l).length = l.length := by
  induction l with
  | nil => rfl
  | cons x r ih => simp [shr, ih]
theorem val_shr (s t : Nat) : ∀ l : List Nat, val (2 ^ (s + t)) (shr s t l) = val (2 ^ (s + t)) l / 2 ^ s
  | [] => by simp [shr, val]
  | x :: r => by
    have ih := val_shr s t r
    simp only [shr, val]
    rw [ih]
    obtain ⟨V, hV⟩ : ∃ V, val (2 ^ (s + t)) r = V := ⟨_, rfl⟩
    have hp : 2 ^ (s + t) = 2 ^ s * 2 ^ t := Nat.pow_add ..
    have hps : 0 < 2 ^ s := Nat.pow_pos (by decide)
    have hpt : 0 < 2 ^ t := Nat.pow_pos (by decide)
    have hm : r.headD 0 % 2 ^ s = V % 2 ^ s := by
      rw [← hV]
      cases r with
      | nil => rfl
      | cons y r' =>
        simp only [List.headD_cons, val]
        rw [hp, Nat.mul_assoc, Nat.add_mul_mod_self_left]
    rw [hV]
    have e1 : (r.headD 0 * 2 ^ t) % 2 ^ (s + t) = (V % 2 ^ s) * 2 ^ t := by
      rw [hp, Nat.mul_mod_mul_right, hm]
    rw [e1, hp]
    have e2 : x + 2 ^ s * 2 ^ t * V = x + 2 ^ s * (2 ^ t * V) := by rw [Nat.mul_assoc]
    rw [e2, Nat.add_mul_div_left _ _ hps]
    have e3 : V = 2 ^ s * (V / 2 ^ s) + V % 2 ^ s := (Nat.div_add_mod V (2 ^ s)).symm
    obtain ⟨P, hP⟩ : ∃ P, 2 ^ s = P := ⟨_, rfl⟩
    obtain ⟨T, hT⟩ : ∃ T, 2 ^ t = T := ⟨_, rfl⟩
    obtain ⟨q, hq⟩ : ∃ q, V / 2 ^ s = q := ⟨_, rfl⟩
    obtain ⟨m, hm2⟩ : ∃ m, V % 2 ^ s = m := ⟨_, rfl⟩
    rw [hq, hm2] at e3
    rw [hq, hm2, hP, hT, e3, hP, Nat.mul_add, ← Nat.mul_assoc T P q, Nat.mul_comm T P, Nat.mul_comm m T]
    omega
end
/-- z is how many of its lowest bits are noughts -/
def IsTz (n z : Nat) : Prop := n % 2 ^ z = 0 ∧ n / 2 ^ z % 2 = 1
theorem IsTz.pos {n z : Nat} (h : IsTz n z) : n ≠ 0 := by
  rintro rfl
  have := h.2
  simp at this
theorem IsTz.eq {n z y : Nat} (h : IsTz n z) (h' : IsTz n y) : z = y := by
  have key : ∀ a b : Nat, IsTz n a → IsTz n b → ¬ a < b := by
    intro a b ha hb hlt
    obtain ⟨d, rfl⟩ : ∃ d, b = a + (d + 1) := ⟨b - a - 1, by omega⟩
    have h1 := hb.1
    have h2 := ha.2
    have hpa : 0 < 2 ^ a := Nat.pow_pos (by decide)
    rw [Nat.pow_add] at h1
    obtain ⟨q, hq⟩ : ∃ q, n = 2 ^ a * 2 ^ (d + 1) * q := ⟨n / (2 ^ a * 2 ^ (d + 1)), by have := Nat.div_add_mod n (2 ^ a * 2 ^ (d + 1)); omega⟩
    rw [hq, Nat.mul_assoc, Nat.mul_div_cancel_left _ hpa, Nat.pow_succ, Nat.mul_assoc, Nat.mul_comm 2 q, ← Nat.mul_assoc, Nat.mul_mod_left] at h2
    omega
  have h1 := key z y h h'
  have h2 := key y z h' h
  omega
theorem tz_exists {n : Nat} (h : n ≠ 0) : ∃ z, IsTz n z := by
  induction n using Nat.strongRecOn with
  | ind n ih =>
    by_cases h1 : n % 2 = 1
    · exact ⟨0, by simp [Nat.mod_one], by simpa using h1⟩
    · obtain ⟨z, h2, h3⟩ := ih (n / 2) (by omega) (by omega)
      refine ⟨z + 1, ?_, ?_⟩
      · rw [Nat.pow_succ, Nat.mul_comm, Nat.mod_mul, h2]; omega
      · rw [Nat.pow_succ, Nat.mul_comm, ← Nat.div_div_eq_div_mul]; exact h3
end WordsM
end Go.Proofs.YtmocmkfpblakbaaDoor
namespace Go.Proofs.YtmocmkfpblakbaaDoor
namespace WordsM

theorem shr_get (s t : Nat) : ∀ (l : List Nat) (i x : Nat), l[i]? = some x → (shr s t l)[i]? = some (x / 2 ^ s + ((l[i + 1]?).getD 0 * 2 ^ t) % 2 ^ (s + t))
  | [], i, x, h => by simp at h
  | y :: r, 0, x, h => by
    simp only [List.getElem?_cons_zero, Option.some.injEq] at h
    subst h
    cases r <;> simp [shr]
  | y :: r, i + 1, x, h => by
    simp only [List.getElem?_cons_succ] at h
    simp only [shr, List.getElem?_cons_succ]
    exact shr_get s t r i x h
theorem shr_part (s t y : Nat) : (y * 2 ^ t) % 2 ^ (s + t) = (y % 2 ^ s) * 2 ^ t := by rw [Nat.pow_add, Nat.mul_mod_mul_right]
theorem shr_div {s t x : Nat} (hx : x < 2 ^ (s + t)) : x / 2 ^ s < 2 ^ t := Nat.div_lt_of_lt_mul (by rw [← Nat.pow_add]; exact hx)
theorem shr_one {s t x y : Nat} (hx : x < 2 ^ (s + t)) : x / 2 ^ s + (y * 2 ^ t) % 2 ^ (s + t) < 2 ^ (s + t) := by
  have h1 := shr_div hx
  have h2 : y % 2 ^ s < 2 ^ s := Nat.mod_lt _ (Nat.pow_pos (by decide))
  rw [shr_part]
  have h3 : (y % 2 ^ s + 1) * 2 ^ t ≤ 2 ^ s * 2 ^ t := Nat.mul_le_mul_right _ h2
  rw [Nat.add_mul, Nat.one_mul, ← Nat.pow_add] at h3
  omega
theorem shr_low {s t : Nat} : ∀ {l : List Nat}, Low (2 ^ (s + t)) l → Low (2 ^ (s + t)) (shr s t l)
  | [], _ => fun x hx => by cases hx
  | y :: r, h => fun x hx => by
    rcases List.mem_cons.1 hx with rfl | hx
    · exact shr_one (h _ (List.mem_cons_self ..))
    · exact shr_low (l := r) (fun z hz => h z (List.mem_cons_of_mem _ hz)) x hx
theorem shr_or {s t x y : Nat} (hx : x < 2 ^ (s + t)) : (x / 2 ^ s) ||| ((y * 2 ^ t) % 2 ^ (s + t)) = x / 2 ^ s + (y * 2 ^ t) % 2 ^ (s + t) := by
  rw [shr_part, Nat.or_comm, nat_join t _ _ (Nat.mul_mod_left _ _) (shr_div hx), Nat.add_comm]
theorem down_val (A : List Nat) (hA : Low (2 ^ 64) A) (k s : Nat) (hk : k ≤ A.length) (hs : s < 64) : val (2 ^ 64) (shr s (64 - s) (A.drop k)) = val (2 ^ 64) A / 2 ^ (64 * k + s) := by
  have h1 := val_shr s (64 - s) (A.drop k)
  rw [show s + (64 - s) = 64 by omega] at h1
  rw [h1, val_drop (Nat.pow_pos (by decide)) A hA k hk, Nat.div_div_eq_div_mul, ← Nat.pow_mul, ← Nat.pow_add]
theorem down_low {A : List Nat} (hA : Low (2 ^ 64) A) (k s : Nat) (hs : s < 64) : Low (2 ^ 64) (shr s (64 - s) (A.drop k)) := by
  have h := shr_low (s := s) (t := 64 - s) (l := A.drop k) (by rw [show s + (64 - s) = 64 by omega]; exact fun x hx => hA x (List.mem_of_mem_drop hx))
  rwa [show s + (64 - s) = 64 by omega] at h
theorem down_nil {A : List Nat} (hA : Low (2 ^ 64) A) {k s : Nat} (hk : A.length ≤ k) : val (2 ^ 64) A / 2 ^ (64 * k + s) = 0 := by
  apply Nat.div_eq_of_lt
  have h1 := val_lt (B := 2 ^ 64) (Nat.pow_pos (by decide)) A hA
  rw [← Nat.pow_mul] at h1
  exact Nat.lt_of_lt_of_le h1 (Nat.pow_le_pow_right (by decide) (by omega))
/-- a list whose first i digits are those of R: one more -/
theorem same_step {L R : List Nat} {i r : Nat} (h : ∀ j, j < i → L[j]? = R[j]?) (hr : R[i]? = some r) (hi : i < L.length) : ∀ j, j < i + 1 → (L.set i r)[j]? = R[j]? := by
  intro j hj
  by_cases hji : j = i
  · subst hji; rw [List.getElem?_set_self hi, hr]
  · rw [List.getElem?_set_ne (fun e => hji e.symm)]; exact h j (by omega)
theorem same_all {L R : List Nat} (h : ∀ j, j < R.length → L[j]? = R[j]?) (hl : L.length = R.length) : L = R := by
  apply List.ext_getElem?
  intro j
  by_cases hj : j < R.length
  · exact h j hj
  · rw [List.getElem?_eq_none (by omega), List.getElem?_eq_none (by omega)]
end WordsM
end Go.Proofs.YtmocmkfpblakbaaDoor
