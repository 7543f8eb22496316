/- Plain law of the checksum: one bit of the register's turn is linear over xor; a text's sum hangs on the text as one number; a turned burst of at most 32 bits, or two unlike neighbours exchanged, is seen. No condition. -/
namespace Go.Proofs.YtopnhplacdbkdaaGreat.CrcM
def P : Nat := 0xedb88320
/-- one bit of the register's turn -/
def L (c : Nat) : Nat := (c / 2) ^^^ (if c % 2 = 1 then P else 0)
def Ln : Nat → Nat → Nat
  | 0, c => c
  | n + 1, c => Ln n (L c)
def full : Nat := 4294967295
def inv (c : Nat) : Nat := c ^^^ full
def step (c : Nat) (x : UInt8) : Nat := Ln 8 (c ^^^ x.toNat)
def run (c : Nat) (b : List UInt8) : Nat := b.foldl step c
def crc (s : Nat) (b : List UInt8) : Nat := inv (run (inv s) b)
/-- bytes as one number, the lowest first -/
def num : List UInt8 → Nat
  | [] => 0
  | x :: r => x.toNat + 256 * num r

theorem L_xor (a b : Nat) : L (a ^^^ b) = L a ^^^ L b := by
  unfold L
  have h1 : (a ^^^ b) / 2 = (a / 2) ^^^ (b / 2) := by
    have := Nat.shiftRight_xor_distrib (a := a) (b := b) (i := 1)
    simpa [Nat.shiftRight_eq_div_pow] using this
  have h2 : (a ^^^ b) % 2 = (a % 2) ^^^ (b % 2) := by
    have := Nat.xor_mod_two_pow (a := a) (b := b) (n := 1)
    simpa using this
  rw [h1, h2]
  rcases Nat.mod_two_eq_zero_or_one a with ha | ha <;> rcases Nat.mod_two_eq_zero_or_one b with hb | hb <;> simp [ha, hb]
  · rw [Nat.xor_assoc]
  · rw [Nat.xor_assoc, Nat.xor_assoc, Nat.xor_comm P (b / 2)]
  · rw [Nat.xor_assoc, Nat.xor_comm P, Nat.xor_assoc, Nat.xor_self, Nat.xor_zero]
theorem Ln_xor (n a b : Nat) : Ln n (a ^^^ b) = Ln n a ^^^ Ln n b := by
  induction n generalizing a b with
  | zero => rfl
  | succ n ih => simp only [Ln, L_xor, ih]
theorem L_double (m : Nat) : L (2 * m) = m := by
  have h : (2 * m) % 2 = 0 := by omega
  have h2 : 2 * m / 2 = m := by omega
  simp [L, h2]
theorem Ln_add (a b c : Nat) : Ln (a + b) c = Ln b (Ln a c) := by
  induction a generalizing c with
  | zero => simp [Ln]
  | succ a ih => rw [Nat.succ_add]; exact ih _
theorem Ln_pow (k m : Nat) : Ln k (2 ^ k * m) = m := by
  induction k generalizing m with
  | zero => simp [Ln]
  | succ k ih =>
    have : 2 ^ (k + 1) * m = 2 * (2 ^ k * m) := by rw [Nat.pow_succ]; ac_rfl
    simp only [Ln, this, L_double, ih]
theorem L_zero : L 0 = 0 := by decide
theorem L_lt {c : Nat} (h : c < 4294967296) : L c < 4294967296 := by
  unfold L
  have h1 : c / 2 < 2 ^ 32 := by omega
  have h2 : (if c % 2 = 1 then P else 0) < 2 ^ 32 := by split <;> decide
  exact Nat.xor_lt_two_pow h1 h2
theorem Ln_lt (n : Nat) {c : Nat} (h : c < 4294967296) : Ln n c < 4294967296 := by
  induction n generalizing c with
  | zero => exact h
  | succ n ih => exact ih (L_lt h)
theorem L_eq_zero {c : Nat} (h : c < 4294967296) (e : L c = 0) : c = 0 := by
  unfold L at e
  split at e
  · have h3 : c / 2 = P := by
      have := congrArg (· ^^^ P) e
      simpa [Nat.xor_assoc] using this
    unfold P at h3
    omega
  · simp at e
    omega
theorem Ln_eq_zero (n : Nat) {c : Nat} (h : c < 4294967296) (e : Ln n c = 0) : c = 0 := by
  induction n generalizing c with
  | zero => exact e
  | succ n ih => exact L_eq_zero h (ih (L_lt h) e)
theorem u8_lt (x : UInt8) : x.toNat < 256 := x.toNat_lt
/-- a byte below, the rest above -/
theorem low_high (x y : Nat) (h : x < 256) : x + 256 * y = x ^^^ (256 * y) := by
  have := Nat.two_pow_add_eq_or_of_lt (i := 8) (b := x) h y
  have h2 : 2 ^ 8 * y + x = 2 ^ 8 * y ||| x := this
  have h3 : 2 ^ 8 * y ^^^ x = 2 ^ 8 * y + x := by
    rw [h2]
    apply Nat.eq_of_testBit_eq
    intro i
    rw [Nat.testBit_xor, Nat.testBit_or, Nat.testBit_two_pow_mul]
    by_cases hi : i < 8
    · have hd : decide (8 ≤ i) = false := by simp; omega
      simp [hd]
    · have hx : x.testBit i = false := Nat.testBit_lt_two_pow (Nat.lt_of_lt_of_le h (by have := Nat.pow_le_pow_right (n := 2) (by omega) (show 8 ≤ i by omega); simpa using this))
      simp [hx]
  rw [Nat.xor_comm, Nat.add_comm]
  exact h3.symm
theorem step_table (c : Nat) (x : UInt8) : step c x = (c / 256) ^^^ Ln 8 ((c % 256) ^^^ x.toNat) := by
  unfold step
  have h : c = c % 256 ^^^ (256 * (c / 256)) := by
    rw [← low_high _ _ (Nat.mod_lt _ (by omega))]; omega
  have e : c ^^^ x.toNat = (256 * (c / 256)) ^^^ ((c % 256) ^^^ x.toNat) := by
    conv => lhs; rw [h]
    ac_rfl
  rw [e, Ln_xor]
  have : Ln 8 (256 * (c / 256)) = c / 256 := Ln_pow 8 (c / 256)
  rw [this]
theorem run_num (c : Nat) (b : List UInt8) : run c b = Ln (8 * b.length) (c ^^^ num b) := by
  induction b generalizing c with
  | nil => simp [run, num, Ln]
  | cons x r ih =>
    have e : run c (x :: r) = run (step c x) r := rfl
    rw [e, ih, List.length_cons, show 8 * (r.length + 1) = 8 + 8 * r.length by omega, Ln_add]
    congr 1
    rw [num, low_high _ _ (u8_lt x), ← Nat.xor_assoc, Ln_xor]
    have : Ln 8 (256 * num r) = num r := Ln_pow 8 (num r)
    rw [this]; rfl
theorem run_append (c : Nat) (a b : List UInt8) : run c (a ++ b) = run (run c a) b := by simp [run]
theorem inv_inv (c : Nat) : inv (inv c) = c := by simp [inv, Nat.xor_assoc]
theorem inv_lt {c : Nat} (h : c < 4294967296) : inv c < 4294967296 := Nat.xor_lt_two_pow (n := 32) h (by decide)
theorem step_lt {c : Nat} (x : UInt8) (h : c < 4294967296) : step c x < 4294967296 :=
  Ln_lt 8 (Nat.xor_lt_two_pow (n := 32) h (by have := u8_lt x; omega))
theorem run_lt {c : Nat} (b : List UInt8) (h : c < 4294967296) : run c b < 4294967296 := by
  induction b generalizing c with
  | nil => exact h
  | cons x r ih => exact ih (step_lt x h)
theorem crc_lt {s : Nat} (b : List UInt8) (h : s < 4294967296) : crc s b < 4294967296 := inv_lt (run_lt b (inv_lt h))
theorem crc_append (s : Nat) (a b : List UInt8) : crc (crc s a) b = crc s (a ++ b) := by
  simp only [crc, inv_inv, run_append]
theorem crc_nil (s : Nat) : crc s [] = s := inv_inv s
/-- two texts of one length: their sums are equal only where the numbers' difference dies out -/
theorem crc_ne {s : Nat} {b b' : List UInt8} (hl : b'.length = b.length) {m k : Nat} (hm : m < 4294967296) (h0 : m ≠ 0) (hk : k ≤ 8 * b.length)
    (hn : num b' = num b ^^^ (2 ^ k * m)) : crc s b' ≠ crc s b := by
  intro h
  have h1 : run (inv s) b' = run (inv s) b := by
    have := congrArg inv h
    simpa only [crc, inv_inv] using this
  rw [run_num, run_num, hl, hn, ← Nat.xor_assoc, Ln_xor] at h1
  have h2 : Ln (8 * b.length) (2 ^ k * m) = 0 := by
    have := congrArg (Ln (8 * b.length) (inv s ^^^ num b) ^^^ ·) h1
    simpa [← Nat.xor_assoc] using this
  rw [show 8 * b.length = k + (8 * b.length - k) by omega, Ln_add, Ln_pow] at h2
  exact h0 (Ln_eq_zero _ hm h2)
theorem num_set (b : List UInt8) (i : Nat) (h : i < b.length) (y : UInt8) : num (b.set i (b[i] ^^^ y)) = num b ^^^ (2 ^ (8 * i) * y.toNat) := by
  induction b generalizing i with
  | nil => simp at h
  | cons x r ih =>
    cases i with
    | zero =>
      simp only [List.set_cons_zero, List.getElem_cons_zero, num]
      rw [low_high _ _ (u8_lt _), low_high _ _ (u8_lt _)]
      simp
      ac_rfl
    | succ i =>
      simp only [List.set_cons_succ, List.getElem_cons_succ, num]
      rw [low_high _ _ (u8_lt _), low_high _ _ (u8_lt _), ih i (by simpa using h)]
      have e1 : 256 * (num r ^^^ 2 ^ (8 * i) * y.toNat) = (256 * num r) ^^^ (256 * (2 ^ (8 * i) * y.toNat)) := by
        have h := Nat.shiftLeft_xor_distrib (a := num r) (b := 2 ^ (8 * i) * y.toNat) (i := 8)
        simp only [Nat.shiftLeft_eq] at h
        rw [Nat.mul_comm, h, Nat.mul_comm, Nat.mul_comm _ (2 ^ 8)]
      have e2 : 256 * (2 ^ (8 * i) * y.toNat) = 2 ^ (8 * (i + 1)) * y.toNat := by
        rw [show 8 * (i + 1) = 8 * i + 8 by omega, Nat.pow_add]; ac_rfl
      rw [e1, e2]; ac_rfl
/-- the bits of a mask below j, turned from bit k on: one byte a bit -/
def turn (b : List UInt8) (k m : Nat) : Nat → List UInt8
  | 0 => b
  | j + 1 => let c := turn b k m j
    if m / 2 ^ j % 2 = 1 ∧ k + j < 8 * b.length then c.set ((k + j) / 8) (c.getD ((k + j) / 8) 0 ^^^ UInt8.ofNat (2 ^ ((k + j) % 8))) else c
theorem turn_no {b : List UInt8} {k m j : Nat} (h : m / 2 ^ j % 2 = 0) : turn b k m (j + 1) = turn b k m j := by
  simp only [turn]
  rw [if_neg (by rw [h]; simp)]
theorem turn_yes {b : List UInt8} {k m j : Nat} (h : m / 2 ^ j % 2 = 1) (hk : k + j < 8 * b.length) {x : UInt8} (hx : (turn b k m j)[(k + j) / 8]? = some x) :
    turn b k m (j + 1) = (turn b k m j).set ((k + j) / 8) (x ^^^ UInt8.ofNat (2 ^ ((k + j) % 8))) := by
  simp only [turn]
  rw [if_pos ⟨h, hk⟩]
  congr 2
  simp [List.getD, hx]
theorem turn_length (b : List UInt8) (k m j : Nat) : (turn b k m j).length = b.length := by
  induction j with
  | zero => rfl
  | succ j ih => simp only [turn]; split <;> simp [ih]
theorem num_turn (b : List UInt8) (k m j : Nat) (h : k + j ≤ 8 * b.length) : num (turn b k m j) = num b ^^^ (2 ^ k * (m % 2 ^ j)) := by
  induction j with
  | zero => simp [turn, Nat.mod_one]
  | succ j ih =>
    have ih := ih (by omega)
    have hm : m % 2 ^ (j + 1) = m % 2 ^ j + 2 ^ j * (m / 2 ^ j % 2) := Nat.mod_pow_succ
    have hlow : m % 2 ^ j < 2 ^ j := Nat.mod_lt _ (Nat.two_pow_pos _)
    simp only [turn]
    by_cases hb : m / 2 ^ j % 2 = 1
    · rw [if_pos ⟨hb, by omega⟩]
      have hi : (k + j) / 8 < (turn b k m j).length := by rw [turn_length]; omega
      have hg : (turn b k m j).getD ((k + j) / 8) 0 = (turn b k m j)[(k + j) / 8] := by simp [List.getD, hi]
      rw [hg, num_set _ _ hi, ih, Nat.xor_assoc]
      congr 1
      have hp : (UInt8.ofNat (2 ^ ((k + j) % 8))).toNat = 2 ^ ((k + j) % 8) := by
        have : (k + j) % 8 ≤ 7 := by omega
        have h2 : 2 ^ ((k + j) % 8) ≤ 2 ^ 7 := Nat.pow_le_pow_right (by omega) this
        rw [UInt8.toNat_ofNat_of_lt']
        exact Nat.lt_of_le_of_lt h2 (by decide)
      have hs : 2 ^ (8 * ((k + j) / 8)) * 2 ^ ((k + j) % 8) = 2 ^ k * 2 ^ j := by
        rw [← Nat.pow_add, ← Nat.pow_add]; congr 1; omega
      rw [hp, hs, hm, hb, Nat.mul_one]
      have hx : m % 2 ^ j + 2 ^ j = m % 2 ^ j ^^^ 2 ^ j := by
        apply Eq.symm
        rw [Nat.add_comm]
        have hor := Nat.two_pow_add_eq_or_of_lt (i := j) hlow 1
        rw [Nat.mul_one] at hor
        rw [hor]
        apply Nat.eq_of_testBit_eq
        intro i
        rw [Nat.testBit_xor, Nat.testBit_or, Nat.testBit_two_pow]
        by_cases hij : j = i
        · subst hij
          have : (m % 2 ^ j).testBit j = false := Nat.testBit_lt_two_pow hlow
          simp [this]
        · simp [hij]
      rw [hx]
      have hd := Nat.shiftLeft_xor_distrib (a := m % 2 ^ j) (b := 2 ^ j) (i := k)
      simp only [Nat.shiftLeft_eq] at hd
      rw [Nat.mul_comm (2 ^ k) (m % 2 ^ j ^^^ 2 ^ j), hd, Nat.mul_comm (2 ^ k), Nat.mul_comm (2 ^ k)]
    · rw [if_neg (fun h => hb h.1), ih, hm, show m / 2 ^ j % 2 = 0 by omega, Nat.mul_zero, Nat.add_zero]
/-- a turn of a mask's bits within the text is seen -/
theorem crc_turn {s : Nat} (b : List UInt8) (k m : Nat) (hm : m < 4294967296) (h0 : m ≠ 0) (hk : k + 32 ≤ 8 * b.length) : crc s (turn b k m 32) ≠ crc s b :=
  crc_ne (k := k) (turn_length b k m 32) hm h0 (by omega) (by rw [num_turn b k m 32 hk, Nat.mod_eq_of_lt (by simpa using hm)])
/-- two neighbours exchanged: seen just where they differ -/
theorem crc_swap {s : Nat} (b : List UInt8) (k : Nat) (h : k + 1 < b.length) : crc s ((b.set k b[k + 1]).set (k + 1) b[k]) = crc s b ↔ b[k] = b[k + 1] := by
  constructor
  · intro he
    apply Decidable.byContradiction
    intro hne
    obtain ⟨y, hy⟩ : ∃ y, y = b[k] ^^^ b[k + 1] := ⟨_, rfl⟩
    have h1 : b[k + 1] = b[k] ^^^ y := by rw [hy, ← UInt8.xor_assoc, UInt8.xor_self, UInt8.zero_xor]
    have h2 : b[k] = b[k + 1] ^^^ y := by rw [hy, UInt8.xor_comm b[k] b[k + 1], ← UInt8.xor_assoc, UInt8.xor_self, UInt8.zero_xor]
    have hb := u8_lt y
    have h0 : y.toNat ≠ 0 := fun e => hne (by
      have : y = 0 := UInt8.toNat_inj.1 e
      rw [this] at h1; simpa using h1.symm)
    have hn : num ((b.set k b[k + 1]).set (k + 1) b[k]) = num b ^^^ (2 ^ (8 * k) * (y.toNat + 256 * y.toNat)) := by
      have e1 : b.set k b[k + 1] = b.set k (b[k] ^^^ y) := by rw [← h1]
      have hl : k + 1 < (b.set k (b[k] ^^^ y)).length := by simpa using h
      have e2 : (b.set k (b[k] ^^^ y)).set (k + 1) b[k] = (b.set k (b[k] ^^^ y)).set (k + 1) ((b.set k (b[k] ^^^ y))[k + 1] ^^^ y) := by
        congr 1
        rw [List.getElem_set_ne (by omega)]; exact h2
      rw [e1, e2, num_set _ _ hl, num_set _ _ (by omega), Nat.xor_assoc]
      congr 1
      rw [low_high _ _ hb]
      have hd := Nat.shiftLeft_xor_distrib (a := y.toNat) (b := 256 * y.toNat) (i := 8 * k)
      simp only [Nat.shiftLeft_eq] at hd
      rw [Nat.mul_comm (2 ^ (8 * k)) (y.toNat ^^^ 256 * y.toNat), hd]
      congr 1
      · rw [Nat.mul_comm]
      · rw [show 8 * (k + 1) = 8 * k + 8 by omega, Nat.pow_add]; ac_rfl
    exact crc_ne (by simp) (by omega) (by omega) (by omega) hn he
  · intro e
    have : (b.set k b[k + 1]).set (k + 1) b[k] = b := by
      apply List.ext_getElem (by simp)
      intro i h1 h2
      simp only [List.getElem_set]
      split
      · next hi => subst hi; exact e
      · split
        · next hi => subst hi; exact e.symm
        · rfl
    rw [this]
theorem Ln_snoc (n c : Nat) : Ln (n + 1) c = L (Ln n c) := by rw [Ln_add]; rfl
end Go.Proofs.YtopnhplacdbkdaaGreat.CrcM
