/- Plain law of records one behind the other: what is found again, also where they are cut off. No condition. -/
import Derived.Test.YtopnhplacdbkdaaLogMath
namespace Go.Proofs.Ytopnhplacdbkdaa.LogM
open CrcM

def catB (l : List (List UInt8)) : List UInt8 := (l.map put).flatten
theorem catB_cons (b : List UInt8) (l : List (List UInt8)) : catB (b :: l) = put b ++ catB l := rfl
theorem catB_append (l m : List (List UInt8)) : catB (l ++ m) = catB l ++ catB m := by simp [catB]
def posB : Nat → List (List UInt8) → List (Nat × List UInt8)
  | _, [] => []
  | at_, b :: l => (at_, b) :: posB (at_ + (b.length + 12)) l
theorem posB_length (at_ : Nat) (l : List (List UInt8)) : (posB at_ l).length = l.length := by
  induction l generalizing at_ with
  | nil => rfl
  | cons b l ih => simp [posB, ih]
theorem posB_at (at_ : Nat) (l : List (List UInt8)) (k : Nat) (b : List UInt8) (h : l[k]? = some b) : (posB at_ l)[k]? = some (at_ + (catB (l.take k)).length, b) := by
  induction l generalizing at_ k with
  | nil => simp at h
  | cons x l ih =>
    cases k with
    | zero =>
      simp only [List.getElem?_cons_zero, Option.some.injEq] at h
      subst h
      simp [posB, catB]
    | succ k =>
      simp only [List.getElem?_cons_succ] at h
      simp only [posB, List.getElem?_cons_succ, List.take_succ_cons, catB_cons, List.length_append, put_length]
      rw [ih _ _ h]
      congr 2
      omega
theorem pairs_cat (l : List (List UInt8)) (hl : ∀ b ∈ l, b.length ≤ most) (r : List UInt8) (hr : (next r).2.2 ≠ 0) (f at_ : Nat) (hf : (catB l ++ r).length < f) :
    pairs f at_ (catB l ++ r) = posB at_ l := by
  induction l generalizing f at_ with
  | nil =>
    cases f with
    | zero => rfl
    | succ f =>
      have e : catB [] ++ r = r := rfl
      rw [e]
      simp only [pairs]
      rw [if_neg hr]
      rfl
  | cons b l ih =>
    cases f with
    | zero => omega
    | succ f =>
      rw [catB_cons, List.append_assoc] at hf ⊢
      simp only [pairs]
      rw [next_put b _ (hl b (by simp))]
      simp only [if_true]
      have hd : (put b ++ (catB l ++ r)).drop (b.length + 12) = catB l ++ r := List.drop_left' (put_length b)
      rw [hd, ih (fun x hx => hl x (by simp [hx])) f _ (by rw [List.length_append, put_length] at hf; omega)]
      rfl
theorem ends_cat (l : List (List UInt8)) (hl : ∀ b ∈ l, b.length ≤ most) (r : List UInt8) (hr : (next r).2.2 ≠ 0) (f : Nat) (hf : (catB l ++ r).length < f) :
    ends f (catB l ++ r) = (catB l).length := by
  induction l generalizing f with
  | nil =>
    cases f with
    | zero => rfl
    | succ f =>
      have e : catB [] ++ r = r := rfl
      rw [e]
      simp only [ends]
      rw [if_neg hr]
      rfl
  | cons b l ih =>
    cases f with
    | zero => omega
    | succ f =>
      rw [catB_cons, List.append_assoc] at hf ⊢
      simp only [ends]
      rw [next_put b _ (hl b (by simp))]
      simp only [if_true]
      have hd : (put b ++ (catB l ++ r)).drop (b.length + 12) = catB l ++ r := List.drop_left' (put_length b)
      rw [hd, ih (fun x hx => hl x (by simp [hx])) f (by rw [List.length_append, put_length] at hf; omega), List.length_append, put_length]
theorem scan_cat (l : List (List UInt8)) (hl : ∀ b ∈ l, b.length ≤ most) (r : List UInt8) (hr : (next r).2.2 ≠ 0) : scan (catB l ++ r) = posB 0 l := pairs_cat l hl r hr _ _ (by omega)
theorem whole_cat (l : List (List UInt8)) (hl : ∀ b ∈ l, b.length ≤ most) (r : List UInt8) (hr : (next r).2.2 ≠ 0) : whole (catB l ++ r) = (catB l).length := ends_cat l hl r hr _ (by omega)
theorem next_nil : next [] = ([], 0, 10) := by simp [next]

/-- a record that is cut off is short -/
theorem next_torn (b : List UInt8) (h : b.length ≤ most) (m : Nat) (hm : m < b.length + 12) : next ((put b).take m) = ([], 0, 10) := by
  have hl : ((put b).take m).length = m := by rw [List.length_take, put_length]; omega
  by_cases h8 : m < 8
  · unfold next; rw [if_pos (by omega)]
  · have hb : b.length < 4294967296 := by unfold most at h; omega
    have e4 : ((put b).take m).take 4 = four b.length := by
      rw [List.take_take, Nat.min_eq_left (by omega)]
      unfold put
      exact List.take_left' rfl
    have d4 : (((put b).take m).drop 4).take 4 = four (crc 0 (four b.length)) := by
      rw [List.drop_take, List.take_take, Nat.min_eq_left (by omega)]
      unfold put
      rw [List.drop_left' (four_length _)]
      exact List.take_left' (four_length _)
    have n0 : numAt ((put b).take m) 0 = b.length := by unfold numAt; rw [List.drop_zero, e4, num_four hb]
    have n4 : numAt ((put b).take m) 4 = crc 0 (four b.length) := by unfold numAt; rw [d4, num_four (crc_lt _ (by omega))]
    unfold next
    rw [n0, n4, e4, hl, if_neg (by omega), if_neg (by omega), if_pos (by omega)]

/-- a text of records that is cut off at n: just those that are whole -/
theorem torn (l : List (List UInt8)) (hl : ∀ b ∈ l, b.length ≤ most) (n k : Nat) (hk : k ≤ l.length) (h1 : (catB (l.take k)).length ≤ n) (h2 : ∀ b, l[k]? = some b → n < (catB (l.take k)).length + (b.length + 12)) :
    ∃ r, (catB l).take n = catB (l.take k) ++ r ∧ (next r).2.2 = 10 ∧ ((catB l).take n).drop (catB (l.take k)).length = r := by
  have hsplit : catB l = catB (l.take k) ++ catB (l.drop k) := by rw [← catB_append, List.take_append_drop]
  refine ⟨(catB (l.drop k)).take (n - (catB (l.take k)).length), ?_, ?_, ?_⟩
  · rw [hsplit, List.take_append, List.take_of_length_le h1]
  · by_cases hkl : k < l.length
    · have hd : l.drop k = l[k] :: l.drop (k + 1) := List.drop_eq_getElem_cons hkl
      have hb := h2 l[k] (List.getElem?_eq_getElem hkl)
      have hle := hl l[k] (List.getElem_mem hkl)
      rw [hd, catB_cons, List.take_append_of_le_length (by rw [put_length]; omega), next_torn _ hle _ (by omega)]
    · have : l.drop k = [] := List.drop_eq_nil_of_le (by omega)
      rw [this]
      have : (catB []).take (n - (catB (l.take k)).length) = [] := by simp [catB]
      rw [this, next_nil]
  · rw [hsplit, List.take_append, List.take_of_length_le h1, List.drop_left' rfl]
end Go.Proofs.Ytopnhplacdbkdaa.LogM
