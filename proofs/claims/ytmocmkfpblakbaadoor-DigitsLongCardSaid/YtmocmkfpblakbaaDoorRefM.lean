/- The walk of the document's Parse. Condition: Go's own limit of a text. -/
import Derived.Test.YtmocmkfpblakbaaDoorRefM1
namespace Go.Proofs.YtmocmkfpblakbaaDoor
open Go.RowKit WordsM DecM

/-- a number and an error are given, of which Φ holds; the words lie -/
def NumRes (w0 : World) (Φ : Bool → Int → List Nat → Int → Prop) (r : Ending) (w' : World) : Prop :=
  ∃ neg' e' a' n' c' L er, r = .returned (.tuple #[.agg #[.bool neg', .int .i64 e', .slice a' n' c'], .int .i64 er]) ∧ Φ neg' e' L er ∧ WordsIn w' a' n' c' L ∧ Below w0.heap.size w0 w'
theorem NumRes.of {w0 w' : World} {Φ : Bool → Int → List Nat → Int → Prop} {neg' : Bool} {e' : Int} {a' : Option Addr} {n' c' : Nat} {L : List Nat} {er : Int} (h1 : Φ neg' e' L er) (h2 : WordsIn w' a' n' c' L) (h3 : Below w0.heap.size w0 w') :
    NumRes w0 Φ (.returned (.tuple #[.agg #[.bool neg', .int .i64 e', .slice a' n' c'], .int .i64 er])) w' := ⟨neg', e', a', n', c', L, er, rfl, h1, h2, h3⟩
/-- what Parse gives of a text -/
def ParseOut (S : List UInt8) (neg' : Bool) (e' : Int) (L : List Nat) (er : Int) : Prop := match form S with
  | none => neg' = false ∧ e' = 0 ∧ L = [] ∧ er = 5
  | some (neg, v, e) => MakeOut neg v e neg' e' L er
theorem ParseOut.none_ {S : List UInt8} (h : form S = none) : ParseOut S false 0 [] 5 := by unfold ParseOut; rw [h]; exact ⟨rfl, rfl, rfl, rfl⟩
theorem ParseOut.some_ {S : List UInt8} {neg : Bool} {v : Nat} {e : Int} (h : form S = some (neg, v, e)) {neg' : Bool} {e' : Int} {L : List Nat} {er : Int} (hm : MakeOut neg v e neg' e' L er) : ParseOut S neg' e' L er := by unfold ParseOut; rw [h]; exact hm
/-- the sign: how many bytes it takes -/
theorem minus_at (s : ByteArray) : (∃ h : 0 < s.size, (s[0]'h) = 45 ∧ minus s.data.toList = (true, s.data.toList.drop 1)) ∨ ((∀ h : 0 < s.size, (s[0]'h) ≠ 45) ∧ minus s.data.toList = (false, s.data.toList.drop 0)) := by
  have hb := fun h => bytes_at s 0 h
  have hl : s.data.toList.length = s.size := rfl
  generalize s.data.toList = L at *
  cases L with
  | nil => exact .inr ⟨fun h => by simp at hl; omega, rfl⟩
  | cons c r =>
    have h0 : 0 < s.size := by rw [← hl]; simp
    have hc := hb h0
    simp only [List.getElem?_cons_zero, Option.some.injEq] at hc
    by_cases h : c = 45
    · exact .inl ⟨h0, by rw [← hc]; exact h, by simp [minus, h]⟩
    · exact .inr ⟨fun h' => by rw [← hc]; exact h, by simp [minus, h]⟩
theorem minus_from (s : ByteArray) (p : Nat) : (∃ h : p < s.size, (s[p]'h) = 45 ∧ minus (s.data.toList.drop p) = (true, s.data.toList.drop (p + 1))) ∨ ((∀ h : p < s.size, (s[p]'h) ≠ 45) ∧ minus (s.data.toList.drop p) = (false, s.data.toList.drop p)) := by
  have hl : s.data.toList.length = s.size := rfl
  by_cases hp : p < s.size
  · have hc := bytes_at s p hp
    have hd : s.data.toList.drop p = (s[p]'hp) :: s.data.toList.drop (p + 1) := by
      rw [List.drop_eq_getElem_cons (by rw [hl]; exact hp)]
      congr 1
    rw [hd]
    by_cases h : (s[p]'hp) = 45
    · exact .inl ⟨hp, h, by simp [minus, h]⟩
    · exact .inr ⟨fun _ => h, by simp [minus, h]⟩
  · have hd : s.data.toList.drop p = [] := List.drop_eq_nil_of_le (by rw [hl]; omega)
    rw [hd]
    exact .inr ⟨fun h => absurd h hp, rfl⟩
theorem drop_cons {s : ByteArray} {p : Nat} (hp : p < s.size) : s.data.toList.drop p = (s[p]'hp) :: s.data.toList.drop (p + 1) := by
  rw [List.drop_eq_getElem_cons (show p < s.data.toList.length from hp)]
  congr 1
/-- the exponent's part of a text, where it is one -/
theorem expo_ok {s : ByteArray} {N k : Nat} {low : Bool} (hN : N < s.size) (hc : (s[N]'hN) = 112) (hm : minus (s.data.toList.drop (N + 1)) = (low, s.data.toList.drop k)) (hd : k + digN (s.data.toList.drop k) = s.size) (h1 : 1 ≤ digN (s.data.toList.drop k)) (h6 : digN (s.data.toList.drop k) ≤ 6) (h48 : (s.data.toList.drop k).headD 0 ≠ 48) :
    expo (s.data.toList.drop N) = some (if low = true then -(dv (s.data.toList.drop k) : Int) else (dv (s.data.toList.drop k) : Int)) := by
  have hl : (s.data.toList.drop k).length = s.size - k := by rw [List.length_drop]; rfl
  rw [drop_cons hN, hc, expo, if_neg (by simp), hm]
  simp only
  rw [if_neg]
  rintro (h | h | h | h)
  · omega
  · omega
  · omega
  · exact h48 h
theorem expo_bad {s : ByteArray} {N k : Nat} {low : Bool} (hN : N < s.size) (hc : (s[N]'hN) = 112) (hm : minus (s.data.toList.drop (N + 1)) = (low, s.data.toList.drop k)) (hk : k ≤ s.size) (h : k + digN (s.data.toList.drop k) ≠ s.size ∨ digN (s.data.toList.drop k) < 1 ∨ 6 < digN (s.data.toList.drop k) ∨ (s.data.toList.drop k).headD 0 = 48) :
    expo (s.data.toList.drop N) = none := by
  have hl : (s.data.toList.drop k).length = s.size - k := by rw [List.length_drop]; rfl
  have hle := digN_le (s.data.toList.drop k)
  rw [drop_cons hN, hc, expo, if_neg (by simp), hm]
  simp only
  rw [if_pos]
  rcases h with h | h | h | h
  · exact .inr (.inr (.inl (by omega)))
  · by_cases h0 : s.size - k = 0
    · exact .inl (by omega)
    · exact .inr (.inr (.inl (by omega)))
  · exact .inr (.inl (by omega))
  · exact .inr (.inr (.inr h))
theorem digit_in {s : ByteArray} {at_ d i : Nat} (h : i < s.size) (h1 : at_ ≤ i) (h2 : i < at_ + d) (ha : allD ((s.data.toList.drop at_).take d)) : 48 ≤ (s[i]'h).toNat ∧ (s[i]'h).toNat ≤ 57 := by
  refine ha _ (List.mem_of_getElem? (i := i - at_) ?_)
  rw [List.getElem?_take, if_pos (by omega), List.getElem?_drop, show at_ + (i - at_) = i by omega]
  exact bytes_at s i h
theorem dv_next {s : ByteArray} {at_ i : Nat} (h : i < s.size) (h1 : at_ ≤ i) : dv ((s.data.toList.drop at_).take (i + 1 - at_)) = dv ((s.data.toList.drop at_).take (i - at_)) * 10 + ((s[i]'h).toNat - 48) := by
  have h2 : (s.data.toList.drop at_)[i - at_]? = some (s[i]'h) := by rw [List.getElem?_drop, show at_ + (i - at_) = i by omega]; exact bytes_at s i h
  rw [show i + 1 - at_ = (i - at_) + 1 by omega, List.take_add_one, h2, Option.toList_some, dv_snoc, Nat.mul_comm]
theorem dv_bound {l : List UInt8} {d k : Nat} (ha : allD (l.take d)) (hk : k ≤ d) : dv (l.take k) < 10 ^ k := by
  have h1 : allD (l.take k) := fun c hc => ha c (by
    have : l.take k = (l.take d).take k := by rw [List.take_take, Nat.min_eq_left hk]
    rw [this] at hc
    exact List.mem_of_mem_take hc)
  exact Nat.lt_of_lt_of_le (dv_lt _ h1) (Nat.pow_le_pow_right (by decide) (by rw [List.length_take]; omega))
end Go.Proofs.YtmocmkfpblakbaaDoor
