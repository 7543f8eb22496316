/- Plain law: of records of which some bits within 32 in a row were turned, those ahead are there and the next is none. No program in sight. -/
import Derived.Test.YtopnhplacdbkdaaLogMath2
namespace Go.Proofs.Ytopnhplacdbkdaa.LogM
open CrcM

theorem num_take (b : List UInt8) (n : Nat) : num (b.take n) = num b % 2 ^ (8 * n) := by
  induction n generalizing b with
  | zero => simp [num, Nat.mod_one]
  | succ n ih =>
    cases b with
    | nil => simp [num]
    | cons x r =>
      have hx := u8_lt x
      simp only [List.take_succ_cons, num, ih]
      rw [show 2 ^ (8 * (n + 1)) = 256 * 2 ^ (8 * n) by rw [Nat.mul_succ, Nat.pow_add]; omega]
      rw [Nat.mod_mul, show (x.toNat + 256 * num r) % 256 = x.toNat by omega, show (x.toNat + 256 * num r) / 256 = num r by omega]
theorem num_drop (b : List UInt8) (n : Nat) : num (b.drop n) = num b / 2 ^ (8 * n) := by
  induction n generalizing b with
  | zero => simp
  | succ n ih =>
    cases b with
    | nil => simp [num]
    | cons x r =>
      have hx := u8_lt x
      simp only [List.drop_succ_cons, num, ih]
      rw [show 2 ^ (8 * (n + 1)) = 256 * 2 ^ (8 * n) by rw [Nat.mul_succ, Nat.pow_add]; omega, ← Nat.div_div_eq_div_mul, show (x.toNat + 256 * num r) / 256 = num r by omega]
theorem num_inj : ∀ {b c : List UInt8}, b.length = c.length → num b = num c → b = c
  | [], [], _, _ => rfl
  | [], _ :: _, h, _ => by simp at h
  | _ :: _, [], h, _ => by simp at h
  | x :: r, y :: s, h, e => by
    have hx := u8_lt x
    have hy := u8_lt y
    simp only [num] at e
    have e1 : x.toNat = y.toNat := by omega
    have e2 : num r = num s := by omega
    rw [UInt8.toNat_inj.1 e1, num_inj (by simpa using h) e2]

/-- what is turned of a part -/
theorem num_part {b b' : List UInt8} {E : Nat} (h : num b' = num b ^^^ E) (s n : Nat) : num ((b'.drop s).take n) = num ((b.drop s).take n) ^^^ (E / 2 ^ (8 * s) % 2 ^ (8 * n)) := by
  rw [num_take, num_drop, num_take, num_drop, h, Nat.xor_div_two_pow, Nat.xor_mod_two_pow]

/-- a text that ends with its own sum -/
theorem code_iff (b c : List UInt8) (hc : c.length = 4) : num c = crc 0 b ↔ crc 0 (b ++ c) = crc 0 [0, 0, 0, 0] := by
  have hX : crc 0 b < 4294967296 := crc_lt b (by omega)
  have hcl : num c < 4294967296 := by have := num_lt c; rw [hc] at this; exact this
  rw [← crc_append]
  generalize crc 0 b = X at hX
  have e1 : crc X c = inv (Ln 32 (inv X ^^^ num c)) := by unfold crc; rw [run_num, hc]
  have e2 : crc 0 [0, 0, 0, 0] = inv (Ln 32 full) := by decide +kernel
  rw [e1, e2]
  have hiX := inv_lt hX
  constructor
  · intro h
    rw [h]
    unfold inv
    rw [Nat.xor_assoc, Nat.xor_comm full X, ← Nat.xor_assoc, Nat.xor_self, Nat.zero_xor]
  · intro h
    have h1 : Ln 32 (inv X ^^^ num c) = Ln 32 full := by
      have := congrArg inv h
      rwa [inv_inv, inv_inv] at this
    have h2 : Ln 32 ((inv X ^^^ num c) ^^^ full) = 0 := by rw [Ln_xor, h1, Nat.xor_self]
    have h3 := Ln_eq_zero 32 (Nat.xor_lt_two_pow (n := 32) (Nat.xor_lt_two_pow (n := 32) hiX hcl) (by decide)) h2
    unfold inv at h3
    have h4 : X ^^^ num c = 0 := by
      rw [← h3, Nat.xor_assoc X full (num c), Nat.xor_comm full (num c), ← Nat.xor_assoc X, Nat.xor_assoc (X ^^^ num c), Nat.xor_self, Nat.xor_zero]
    have h5 : X ^^^ (X ^^^ num c) = X ^^^ 0 := by rw [h4]
    rw [← Nat.xor_assoc, Nat.xor_self, Nat.zero_xor, Nat.xor_zero] at h5
    exact h5
theorem code_burst {b c b' c' : List UInt8} (hc : c.length = 4) (hc' : c'.length = 4) (hb : b'.length = b.length) (h : num c = crc 0 b) {k m : Nat} (hm : m < 4294967296) (h0 : m ≠ 0) (hk : k ≤ 8 * (b.length + 4))
    (hn : num (b' ++ c') = num (b ++ c) ^^^ (2 ^ k * m)) : num c' ≠ crc 0 b' := by
  intro h'
  have e1 := (code_iff b c hc).1 h
  have e2 := (code_iff b' c' hc').1 h'
  exact crc_ne (s := 0) (b := b ++ c) (b' := b' ++ c') (by simp [hb, hc, hc']) hm h0 (by simp [hc]; omega) hn (e2.trans e1.symm)

/-- some bits within 32 in a row -/
def Burst (E : Nat) : Prop := ∀ s n, ∃ k m, E / 2 ^ (8 * s) % 2 ^ (8 * n) = 2 ^ k * m ∧ m < 4294967296 ∧ k ≤ 8 * n
theorem Burst.of (k m : Nat) (hm : m < 4294967296) : Burst (2 ^ k * m) := by
  intro s n
  by_cases hk : 8 * s ≤ k
  · have e1 : 2 ^ k * m / 2 ^ (8 * s) = 2 ^ (k - 8 * s) * m := by
      rw [show 2 ^ k = 2 ^ (8 * s) * 2 ^ (k - 8 * s) by rw [← Nat.pow_add]; congr 1; omega, Nat.mul_assoc, Nat.mul_div_cancel_left _ (Nat.two_pow_pos _)]
    by_cases hn : k - 8 * s ≤ 8 * n
    · refine ⟨k - 8 * s, m % 2 ^ (8 * n - (k - 8 * s)), ?_, Nat.lt_of_le_of_lt (Nat.mod_le _ _) hm, hn⟩
      rw [e1, show 2 ^ (8 * n) = 2 ^ (k - 8 * s) * 2 ^ (8 * n - (k - 8 * s)) by rw [← Nat.pow_add]; congr 1; omega, Nat.mul_mod_mul_left]
    · refine ⟨0, 0, ?_, by omega, by omega⟩
      rw [e1, show 2 ^ (k - 8 * s) = 2 ^ (8 * n) * 2 ^ (k - 8 * s - 8 * n) by rw [← Nat.pow_add]; congr 1; omega, Nat.mul_assoc, Nat.mul_mod_right]
  · refine ⟨0, m / 2 ^ (8 * s - k) % 2 ^ (8 * n), ?_, Nat.lt_of_le_of_lt (Nat.le_trans (Nat.mod_le _ _) (Nat.div_le_self _ _)) hm, by omega⟩
    rw [Nat.pow_zero, Nat.one_mul, show 2 ^ (8 * s) = 2 ^ k * 2 ^ (8 * s - k) by rw [← Nat.pow_add]; congr 1; omega, Nat.mul_div_mul_left _ _ (Nat.two_pow_pos _)]
theorem Burst.drop {E : Nat} (h : Burst E) (p : Nat) : Burst (E / 2 ^ (8 * p)) := by
  intro s n
  have := h (p + s) n
  rwa [Nat.mul_add, Nat.pow_add, ← Nat.div_div_eq_div_mul] at this

theorem part_bit {E f s n : Nat} (h1 : E / 2 ^ f % 2 = 1) (h2 : 8 * s ≤ f) (h3 : f < 8 * s + 8 * n) : E / 2 ^ (8 * s) % 2 ^ (8 * n) ≠ 0 := by
  intro h
  have hb : (E / 2 ^ (8 * s) % 2 ^ (8 * n)).testBit (f - 8 * s) = true := by
    rw [Nat.testBit_mod_two_pow, Nat.testBit_div_two_pow]
    simp only [Bool.and_eq_true, decide_eq_true_eq]
    refine ⟨by omega, ?_⟩
    rw [show f - 8 * s + 8 * s = f by omega, Nat.testBit_eq_decide_div_mod_eq, h1]
    rfl
  rw [h, Nat.zero_testBit] at hb
  cases hb
theorem mod_zero_of {E f g : Nat} (h : E % 2 ^ f = 0) (hg : g ≤ f) : E % 2 ^ g = 0 := by
  have := Nat.mod_mod_of_dvd E (Nat.pow_dvd_pow 2 hg)
  rw [h, Nat.zero_mod] at this
  exact this.symm

theorem put_head (b r : List UInt8) : (put b ++ r).take 4 = four b.length ∧ ((put b ++ r).drop 4).take 4 = four (crc 0 (four b.length)) ∧ ((put b ++ r).drop 8).take b.length = b ∧ ((put b ++ r).drop (b.length + 8)).take 4 = four (crc 0 b) := by
  have h4 := four_length b.length
  have h4' := four_length (crc 0 (four b.length))
  have h4'' := four_length (crc 0 b)
  have e : put b ++ r = four b.length ++ (four (crc 0 (four b.length)) ++ (b ++ (four (crc 0 b) ++ r))) := by simp [put]
  have d4 : (put b ++ r).drop 4 = four (crc 0 (four b.length)) ++ (b ++ (four (crc 0 b) ++ r)) := by rw [e, List.drop_left' h4]
  have d8 : (put b ++ r).drop 8 = b ++ (four (crc 0 b) ++ r) := by
    rw [show 8 = 4 + 4 from rfl, ← List.drop_drop, d4, List.drop_left' h4']
  refine ⟨by rw [e, List.take_left' h4], by rw [d4, List.take_left' h4'], by rw [d8, List.take_left' rfl], ?_⟩
  rw [show b.length + 8 = 8 + b.length by omega, ← List.drop_drop, d8, List.drop_left' rfl, List.take_left' h4'']

/-- a record with turned bits is none -/
theorem next_burst {b r r' : List UInt8} {E f : Nat} (hb : b.length ≤ most) (hl : r'.length = (put b ++ r).length) (hn : num r' = num (put b ++ r) ^^^ E) (hE : Burst E) (h0 : E % 2 ^ f = 0) (h1 : E / 2 ^ f % 2 = 1) (hf : f < 8 * (b.length + 12)) :
    (next r').2.2 = 11 := by
  have hlen : b.length + 12 ≤ r'.length := by rw [hl, List.length_append, put_length]; omega
  have hbl : b.length < 4294967296 := by unfold most at hb; omega
  obtain ⟨p0, p4, p8, pe⟩ := put_head b r
  have hc4 : crc 0 (four b.length) < 4294967296 := crc_lt _ (by omega)
  have hcb : crc 0 b < 4294967296 := crc_lt _ (by omega)
  unfold next
  rw [if_neg (by omega)]
  by_cases h64 : f < 64
  · rw [if_pos]
    left
    obtain ⟨k, m, hk, hm, hk8⟩ := hE 0 8
    have hpart := num_part hn 0 8
    rw [hk, List.drop_zero, List.drop_zero] at hpart
    have hm0 : m ≠ 0 := by
      intro h
      exact part_bit (s := 0) (n := 8) h1 (by omega) (by omega) (by rw [hk, h, Nat.mul_zero])
    have e' : r'.take 8 = r'.take 4 ++ (r'.drop 4).take 4 := by rw [show 8 = 4 + 4 from rfl, List.take_add]
    have e : (put b ++ r).take 8 = four b.length ++ four (crc 0 (four b.length)) := by rw [show 8 = 4 + 4 from rfl, List.take_add, p0, p4]
    rw [e', e] at hpart
    have := code_burst (b := four b.length) (c := four (crc 0 (four b.length))) (b' := r'.take 4) (c' := (r'.drop 4).take 4) (four_length _) (by rw [List.length_take, List.length_drop]; omega) (by rw [List.length_take, four_length]; omega) (num_four hc4) hm hm0 (by rw [four_length]; exact hk8) hpart
    exact this
  · have hz : E % 2 ^ 64 = 0 := mod_zero_of h0 (by omega)
    have hpart := num_part hn 0 8
    rw [Nat.mul_zero, Nat.pow_zero, Nat.div_one, show 8 * 8 = 64 from rfl, hz, Nat.xor_zero, List.drop_zero, List.drop_zero] at hpart
    have h8 : r'.take 8 = (put b ++ r).take 8 := num_inj (by rw [List.length_take, List.length_take, hl]) hpart
    have q0 : r'.take 4 = four b.length := by
      have := congrArg (List.take 4) h8
      rwa [List.take_take, List.take_take, show min 4 8 = 4 from rfl, p0] at this
    have q4 : (r'.drop 4).take 4 = four (crc 0 (four b.length)) := by
      have := congrArg (List.drop 4) h8
      rwa [List.drop_take, List.drop_take, show 8 - 4 = 4 from rfl, p4] at this
    have n4 : numAt r' 4 = crc 0 (four b.length) := by unfold numAt; rw [q4, num_four hc4]
    have n0 : numAt r' 0 = b.length := by unfold numAt; rw [List.drop_zero, q0, num_four hbl]
    rw [if_neg (by rw [n4, n0, q0]; omega), n0, if_neg (by omega), if_pos]
    obtain ⟨k, m, hk, hm, hk8⟩ := hE 8 (b.length + 4)
    have hp := num_part hn 8 (b.length + 4)
    rw [hk] at hp
    have hm0 : m ≠ 0 := by
      intro h
      exact part_bit (s := 8) (n := b.length + 4) h1 (by omega) (by omega) (by rw [hk, h, Nat.mul_zero])
    rw [List.take_add, List.take_add, List.drop_drop, List.drop_drop, p8, show 8 + b.length = b.length + 8 by omega, pe] at hp
    have := code_burst (b := b) (c := four (crc 0 b)) (b' := (r'.drop 8).take b.length) (c' := (r'.drop (b.length + 8)).take 4) (four_length _) (by rw [List.length_take, List.length_drop]; omega) (by rw [List.length_take, List.length_drop]; omega) (num_four hcb) hm hm0 hk8 hp
    exact this

/-- the law: the records ahead of the first turned byte are there, and no more -/
theorem bursts (l : List (List UInt8)) (hl : ∀ b ∈ l, b.length ≤ most) {T' : List UInt8} {k m f j : Nat} (hT : T'.length = (catB l).length) (hn : num T' = num (catB l) ^^^ (2 ^ k * m)) (hm : m < 4294967296)
    (h0 : 2 ^ k * m % 2 ^ f = 0) (h1 : 2 ^ k * m / 2 ^ f % 2 = 1) (hj : j < l.length) (hs : 8 * (catB (l.take j)).length ≤ f) (hf : f < 8 * ((catB (l.take j)).length + ((l[j]).length + 12))) :
    whole T' = (catB (l.take j)).length ∧ (next (T'.drop (catB (l.take j)).length)).2.2 = 11 := by
  obtain ⟨s, hsE⟩ : ∃ s, s = (catB (l.take j)).length := ⟨_, rfl⟩
  have hsplit : catB l = catB (l.take j) ++ (put l[j] ++ catB (l.drop (j + 1))) := by
    rw [← catB_cons, ← List.drop_eq_getElem_cons hj, ← catB_append, List.take_append_drop]
  have hd : (catB l).drop s = put l[j] ++ catB (l.drop (j + 1)) := by rw [hsplit, List.drop_left' hsE.symm]
  have hdn : num (T'.drop s) = num (put l[j] ++ catB (l.drop (j + 1))) ^^^ (2 ^ k * m / 2 ^ (8 * s)) := by
    rw [← hd, num_drop, num_drop, hn, Nat.xor_div_two_pow]
  have hnx : (next (T'.drop s)).2.2 = 11 := by
    refine next_burst (f := f - 8 * s) (hl _ (List.getElem_mem hj)) (by rw [← hd, List.length_drop, List.length_drop, hT]) hdn ((Burst.of k m hm).drop s) ?_ ?_ (by rw [hsE] at *; omega)
    · obtain ⟨q, hq⟩ := Nat.dvd_of_mod_eq_zero h0
      rw [hq, show 2 ^ f = 2 ^ (8 * s) * 2 ^ (f - 8 * s) by rw [← Nat.pow_add]; congr 1; omega, Nat.mul_assoc, Nat.mul_div_cancel_left _ (Nat.two_pow_pos _), Nat.mul_mod_right]
    · rw [Nat.div_div_eq_div_mul, ← Nat.pow_add, show 8 * s + (f - 8 * s) = f by omega]; exact h1
  have hpre : T'.take s = catB (l.take j) := by
    have : num (T'.take s) = num ((catB l).take s) := by
      rw [num_take, num_take, hn, Nat.xor_mod_two_pow, mod_zero_of h0 (by omega), Nat.xor_zero]
    have := num_inj (by rw [List.length_take, List.length_take, hT]) this
    rw [this, hsplit, List.take_left' hsE.symm]
  rw [← hsE]
  refine ⟨?_, hnx⟩
  have hw := whole_cat (l.take j) (fun b hb => hl b (List.mem_of_mem_take hb)) (T'.drop s) (by omega)
  rw [← hpre, List.take_append_drop] at hw
  rw [hw, List.length_take, hT, hsplit, List.length_append, ← hsE]
  omega
end Go.Proofs.Ytopnhplacdbkdaa.LogM
