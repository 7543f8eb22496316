/- What the statement SnapSpoilt's file comes to. Plain. -/
import Derived.Test.YtopnhplacdbkdaaSnapM
import Derived.Test.YtopnhplacdbkdaaLogBurst
namespace Go.Proofs.Ytopnhplacdbkdaa
namespace DiskM
theorem low_step (m j : Nat) : m % 2 ^ j = 0 ∨ ∃ low, low < j ∧ m % 2 ^ low = 0 ∧ m / 2 ^ low % 2 = 1 := by
  induction j with
  | zero => exact .inl (Nat.mod_one _)
  | succ j ih =>
    rcases ih with h1 | ⟨low, hlow, h1, h2⟩
    · by_cases hb : m / 2 ^ j % 2 = 1
      · exact .inr ⟨j, by omega, h1, hb⟩
      · exact .inl (by rw [Nat.pow_succ, Nat.mod_mul, h1, show m / 2 ^ j % 2 = 0 by omega, Nat.mul_zero])
    · exact .inr ⟨low, by omega, h1, h2⟩
theorem next_turned (a : List UInt8) (ha : a.length ≤ 300) (k m : Nat) (hm : m < 4294967296) (h0 : m ≠ 0) (hk : k + 32 ≤ 8 * (a.length + 12)) : (LogM.next (CrcM.turn (LogM.put a) k m 32)).2.2 = 11 := by
  rcases low_step m 32 with h | ⟨low, hl, h1, h2⟩
  · rw [Nat.mod_eq_of_lt hm] at h; exact absurd h h0
  · have hp : (LogM.put a ++ []).length = a.length + 12 := by rw [List.append_nil, LogM.put_length]
    have hn : CrcM.num (CrcM.turn (LogM.put a) k m 32) = CrcM.num (LogM.put a ++ []) ^^^ (2 ^ k * m) := by
      rw [CrcM.num_turn _ _ _ _ (by rw [LogM.put_length]; omega), Nat.mod_eq_of_lt (a := m) (b := 2 ^ 32) hm, List.append_nil]
    exact LogM.next_burst (r := []) (f := k + low) (by unfold LogM.most; omega) (by rw [CrcM.turn_length, List.append_nil]) hn (LogM.Burst.of k m hm) (by rw [Nat.pow_add, Nat.mul_mod_mul_left, h1, Nat.mul_zero])
      (by rw [Nat.pow_add, Nat.mul_div_mul_left _ _ (Nat.two_pow_pos k)]; exact h2) (by omega)
def sp (x : List UInt8) (s : Nat) : DS := ds [([115], (x, s))] 5000 (-1) false false
theorem load_sp (x : List UInt8) (s : Nat) (h : ¬ ((LogM.next x).2.2 = 0 ∧ ¬ (LogM.next x).2.1 < x.length)) : load (sp x s) [115] = ([], 11) := by
  have hr : read (sp x s) [115] = (x, 0) := rfl
  unfold load
  rw [hr]
  show (if (0 : Nat) = 0 then loadOf x else _) = _
  rw [if_pos rfl]
  unfold loadOf
  rw [if_neg h]
theorem sp_one (a : List UInt8) : ds (st (some a)) 5000 (-1) false false = sp a a.length := rfl
theorem sp_app (x : List UInt8) (s : Nat) (b : List UInt8) (h : x.length + b.length ≤ 5000) : append (sp x s) [115] b = (0, sp (x ++ b) s) := by
  have ha : appendAsk (sp x s) [115] b = 0 := by
    unfold appendAsk
    rw [if_pos (by decide), if_neg]
    show ¬ 5000 < b.length + used [([115], (x, s))]
    rw [used_one]; show ¬ 5000 < b.length + x.length; omega
  unfold append
  rw [ha, write_go rfl (by show (-1 : Int) ≠ 0; omega)]
  rfl
theorem sp_rem (x : List UInt8) (s : Nat) : remove (sp x s) [115] = (0, ds [] 5000 (-1) false false) := by
  unfold remove
  rw [show has (sp x s) [115] = 0 from rfl, write_go rfl (by show (-1 : Int) ≠ 0; omega)]
  rfl
theorem nil_app (b : List UInt8) (h : b.length ≤ 5000) : append (ds [] 5000 (-1) false false) [115] b = (0, sp b 0) := by
  have ha : appendAsk (ds [] 5000 (-1) false false) [115] b = 0 := by
    unfold appendAsk
    rw [if_pos (by decide), if_neg]
    show ¬ 5000 < b.length + 0
    omega
  unfold append
  rw [ha, write_go rfl (by show (-1 : Int) ≠ 0; omega)]
  rfl
theorem sp_read (x : List UInt8) (s : Nat) : read (sp x s) [115] = (x, 0) := rfl
theorem bad_more (a : List UInt8) (ha : a.length ≤ 300) (s : Nat) : load (sp (LogM.put a ++ [7]) s) [115] = ([], 11) := by
  refine load_sp _ _ fun h => h.2 ?_
  rw [LogM.next_put a [7] (by unfold LogM.most; omega), List.length_append, LogM.put_length]
  show a.length + 12 < a.length + 12 + 1
  omega
theorem bad_turn (a : List UInt8) (ha : a.length ≤ 300) (k m : Nat) (hm : m < 4294967296) (h0 : m ≠ 0) (hk : k + 32 ≤ 8 * (a.length + 12)) (s : Nat) : load (sp (CrcM.turn (LogM.put a) k m 32) s) [115] = ([], 11) := by
  refine load_sp _ _ fun h => ?_
  rw [next_turned a ha k m hm h0 hk] at h
  exact absurd h.1 (by omega)
theorem bad_torn (a : List UInt8) (ha : a.length ≤ 300) (k : Nat) (hk : k < a.length + 12) (s : Nat) : load (sp ((LogM.put a).take k) s) [115] = ([], 11) := by
  refine load_sp _ _ fun h => ?_
  rw [LogM.next_torn a (by unfold LogM.most; omega) k hk] at h
  exact absurd h.1 (by show ¬ (10 = 0); omega)
end DiskM
end Go.Proofs.Ytopnhplacdbkdaa
