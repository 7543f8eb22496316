/- Plain law of the records: what a record is, what stands at the beginning of bytes, records one behind the other, cut off, or with turned bits. No condition. -/
import Derived.Test.YtopnhplacdbkdaaGreatCrcMath
namespace Go.Proofs.YtopnhplacdbkdaaGreat.LogM
open CrcM

def four (v : Nat) : List UInt8 := [UInt8.ofNat (v % 256), UInt8.ofNat (v / 256 % 256), UInt8.ofNat (v / 65536 % 256), UInt8.ofNat (v / 16777216 % 256)]
theorem four_length (v : Nat) : (four v).length = 4 := rfl
theorem ofNat_toNat {n : Nat} (h : n < 256) : (UInt8.ofNat n).toNat = n := UInt8.toNat_ofNat_of_lt' h
theorem num_four {v : Nat} (h : v < 4294967296) : num (four v) = v := by
  have h0 : v % 256 < 256 := Nat.mod_lt _ (by omega)
  have h1 : v / 256 % 256 < 256 := Nat.mod_lt _ (by omega)
  have h2 : v / 65536 % 256 < 256 := Nat.mod_lt _ (by omega)
  have h3 : v / 16777216 % 256 < 256 := Nat.mod_lt _ (by omega)
  simp only [four, num, ofNat_toNat h0, ofNat_toNat h1, ofNat_toNat h2, ofNat_toNat h3]
  omega
def most : Nat := 65536
def put (b : List UInt8) : List UInt8 := four b.length ++ (four (crc 0 (four b.length)) ++ (b ++ four (crc 0 b)))
theorem put_length (b : List UInt8) : (put b).length = b.length + 12 := by simp [put, four_length]; omega

/-- the number of the four bytes from i on -/
def numAt (b : List UInt8) (i : Nat) : Nat := num ((b.drop i).take 4)
/-- what stands at the beginning: the record's bytes, its length, and 0, or 10 (short), or 11 (bad) -/
def next (b : List UInt8) : List UInt8 × Nat × Nat :=
  if b.length < 8 then ([], 0, 10)
  else if numAt b 4 ≠ crc 0 (b.take 4) ∨ most < numAt b 0 then ([], 0, 11)
  else if b.length < numAt b 0 + 12 then ([], 0, 10)
  else if numAt b (numAt b 0 + 8) ≠ crc 0 ((b.drop 8).take (numAt b 0)) then ([], 0, 11)
  else ((b.drop 8).take (numAt b 0), numAt b 0 + 12, 0)

theorem num_lt (b : List UInt8) : num b < 256 ^ b.length := by
  induction b with
  | nil => simp [num]
  | cons x r ih =>
    have := u8_lt x
    simp only [num, List.length_cons, Nat.pow_succ]
    omega
theorem numAt_lt (b : List UInt8) (i : Nat) : numAt b i < 4294967296 := by
  have h := num_lt ((b.drop i).take 4)
  have hl : ((b.drop i).take 4).length ≤ 4 := List.length_take_le _ _
  have := Nat.pow_le_pow_right (n := 256) (by omega) hl
  unfold numAt
  omega
theorem next_len (b : List UInt8) (h : (next b).2.2 = 0) : (next b).2.1 = (next b).1.length + 12 ∧ (next b).2.1 ≤ b.length ∧ (next b).1.length ≤ most ∧ (next b).1 = (b.drop 8).take (next b).1.length := by
  unfold next at h ⊢
  split at h
  · simp at h
  · split at h
    · simp at h
    · split at h
      · simp at h
      · split at h
        · simp at h
        · next h1 h2 h3 h4 =>
          rw [if_neg h1, if_neg h2, if_neg h3, if_neg h4]
          have hl : ((b.drop 8).take (numAt b 0)).length = numAt b 0 := by simp; omega
          refine ⟨by rw [hl], by show numAt b 0 + 12 ≤ b.length; omega, by rw [hl]; omega, by rw [hl]⟩

/-- a record at the beginning of bytes is found again -/
theorem next_put (b r : List UInt8) (h : b.length ≤ most) : next (put b ++ r) = (b, b.length + 12, 0) := by
  have hb : b.length < 4294967296 := by unfold most at h; omega
  have e4 : (put b ++ r).take 4 = four b.length := by
    simp only [put, List.append_assoc]
    exact List.take_left' rfl
  have d4 : (put b ++ r).drop 4 = four (crc 0 (four b.length)) ++ (b ++ (four (crc 0 b) ++ r)) := by
    simp only [put, List.append_assoc]
    exact List.drop_left' rfl
  have n0 : numAt (put b ++ r) 0 = b.length := by
    unfold numAt
    rw [List.drop_zero, e4, num_four hb]
  have n4 : numAt (put b ++ r) 4 = crc 0 (four b.length) := by
    unfold numAt
    rw [d4, List.take_left' (four_length _), num_four (crc_lt _ (by omega))]
  have d8 : (put b ++ r).drop 8 = b ++ (four (crc 0 b) ++ r) := by
    have := List.drop_drop (i := 4) (j := 4) (l := put b ++ r)
    rw [d4, List.drop_left' (four_length _)] at this
    exact this.symm
  have nl : numAt (put b ++ r) (b.length + 8) = crc 0 b := by
    unfold numAt
    have := List.drop_drop (i := b.length) (j := 8) (l := put b ++ r)
    rw [d8, List.drop_left' rfl] at this
    rw [Nat.add_comm] at this
    rw [← this, List.take_left' (four_length _), num_four (crc_lt _ (by omega))]
  have hl : (put b ++ r).length = b.length + 12 + r.length := by rw [List.length_append, put_length]
  unfold next
  rw [n0, n4, e4, nl, d8, List.take_left' rfl, if_neg (by omega), if_neg (by omega), if_neg (by omega), if_neg (by simp)]

/-- all records at the beginning, each with its place -/
def pairs : Nat → Nat → List UInt8 → List (Nat × List UInt8)
  | 0, _, _ => []
  | f + 1, at_, b => if (next b).2.2 = 0 then (at_, (next b).1) :: pairs f (at_ + (next b).2.1) (b.drop (next b).2.1) else []
/-- how many bytes they have together -/
def ends : Nat → List UInt8 → Nat
  | 0, _ => 0
  | f + 1, b => if (next b).2.2 = 0 then (next b).2.1 + ends f (b.drop (next b).2.1) else 0
def scan (b : List UInt8) : List (Nat × List UInt8) := pairs (b.length + 1) 0 b
def whole (b : List UInt8) : Nat := ends (b.length + 1) b

/-- more steps than bytes change nothing -/
theorem pairs_more (f g at_ : Nat) (b : List UInt8) (hf : b.length < f) (hg : b.length < g) : pairs f at_ b = pairs g at_ b := by
  induction f generalizing g at_ b with
  | zero => omega
  | succ f ih =>
    cases g with
    | zero => omega
    | succ g =>
      simp only [pairs]
      by_cases h : (next b).2.2 = 0
      · rw [if_pos h, if_pos h]
        have := next_len b h
        congr 1
        exact ih _ _ _ (by simp; omega) (by simp; omega)
      · rw [if_neg h, if_neg h]
theorem ends_more (f g : Nat) (b : List UInt8) (hf : b.length < f) (hg : b.length < g) : ends f b = ends g b := by
  induction f generalizing g b with
  | zero => omega
  | succ f ih =>
    cases g with
    | zero => omega
    | succ g =>
      simp only [ends]
      by_cases h : (next b).2.2 = 0
      · rw [if_pos h, if_pos h]
        have := next_len b h
        congr 1
        exact ih _ _ (by simp; omega) (by simp; omega)
      · rw [if_neg h, if_neg h]
/-- the records from a place on -/
def from_ (b : List UInt8) (p : Nat) : List (Nat × List UInt8) := pairs (b.length - p + 1) p (b.drop p)
theorem from_zero (b : List UInt8) : from_ b 0 = scan b := by simp [from_, scan]
theorem from_yes (b : List UInt8) (p : Nat) (hp : p ≤ b.length) (h : (next (b.drop p)).2.2 = 0) :
    from_ b p = (p, (next (b.drop p)).1) :: from_ b (p + (next (b.drop p)).2.1) ∧ p + (next (b.drop p)).2.1 ≤ b.length ∧ 12 ≤ (next (b.drop p)).2.1 := by
  have hl := next_len _ h
  rw [List.length_drop] at hl
  have e : from_ b p = (p, (next (b.drop p)).1) :: pairs (b.length - p) (p + (next (b.drop p)).2.1) ((b.drop p).drop (next (b.drop p)).2.1) := by
    unfold from_
    simp only [pairs]
    rw [if_pos h]
  refine ⟨?_, by omega, by omega⟩
  rw [e, List.drop_drop]
  congr 1
  exact pairs_more _ _ _ _ (by rw [List.length_drop]; omega) (by rw [List.length_drop]; omega)
theorem from_no (b : List UInt8) (p : Nat) (h : (next (b.drop p)).2.2 ≠ 0) : from_ b p = [] := by
  unfold from_
  simp only [pairs]
  rw [if_neg h]
/-- where the records end: the place behind the last one -/
def endOf (p : Nat) (l : List (Nat × List UInt8)) : Nat := match l.getLast? with | some (q, x) => q + (x.length + 12) | none => p
theorem ends_from (f : Nat) (b : List UInt8) (p : Nat) : (pairs f p b).foldl (fun _ x => x.1 + (x.2.length + 12)) p = p + ends f b := by
  induction f generalizing b p with
  | zero => simp [pairs, ends]
  | succ f ih =>
    simp only [pairs, ends]
    by_cases h : (next b).2.2 = 0
    · rw [if_pos h, if_pos h, List.foldl_cons]
      have := next_len b h
      show List.foldl _ (p + ((next b).1.length + 12)) _ = _
      rw [← this.1, ih]
      omega
    · rw [if_neg h, if_neg h]; simp
theorem scan_whole (b : List UInt8) : (scan b).foldl (fun _ x => x.1 + (x.2.length + 12)) 0 = whole b := by
  have := ends_from (b.length + 1) b 0
  simpa [scan, whole] using this
end Go.Proofs.YtopnhplacdbkdaaGreat.LogM
