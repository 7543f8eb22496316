/- The walk of the document's Make. Condition: the words lie as a slice of words, not too long; the exponent is not too large. -/
import Derived.Test.YtmocmkfpblakbaaDoorRefH
import Derived.Test.YtmocmkfpblakbaaDoorNumC
namespace Go.Proofs.YtmocmkfpblakbaaDoor
open Go.RowKit WordsM

theorem halves_val (ws : List Nat) : NatM.val (NatM.halves ws) = val (2 ^ 64) ws := by
  induction ws with
  | nil => rfl
  | cons x r ih =>
    have e : NatM.halves (x :: r) = (x % 4294967296) :: (x / 4294967296) :: NatM.halves r := rfl
    rw [e]
    simp only [NatM.val, val, ih]
    rw [show (2 : Nat) ^ 64 = 4294967296 * 4294967296 by decide, Nat.mul_assoc]
    show x % 4294967296 + 4294967296 * (x / 4294967296 + 4294967296 * val (4294967296 * 4294967296) r) = _
    rw [Nat.mul_add]
    omega
theorem refpart_dig (a : Option Addr) (n c : Nat) (ls : List Nat) (w : World) (h : WordsIn w a n c ls) (hm : n ≤ 1000000) :
    Calls Tryd.prog 11 #[.slice a n c] w fun e w' => ∃ a' n' c', e = .returned (.slice a' n' c') ∧ n' ≤ 2 * n ∧ DigIn w' a' n' c' (val (2 ^ 64) ls) ∧ Below w.heap.size w w' := by
  refine (refpart_any a n c ls w h.len hm h.rd.rdN h.low).mono ?_
  rintro e w' ⟨a', n', c', rfl, hn', hc, hc', hrd, hb⟩
  have h1 : NatM.trimL (NatM.halves ls) = dig (2 ^ 32) (val (2 ^ 64) ls) := by
    rw [trim_nat, trim_dig (B := 2 ^ 32) (by decide) (show Low (2 ^ 32) (NatM.halves ls) from NatM.halves_small h.low), ← val_nat, halves_val]
  have h2 := NatM.trim_len (NatM.halves ls)
  rw [NatM.halves_len, h.len] at h2
  rw [h1] at hn' hrd h2
  exact ⟨a', n', c', rfl, by omega, ⟨hn'.symm, hc, hc', hrd.rdI⟩, hb⟩
theorem fit_num {v : Nat} (hv : v % 2 = 1) (neg : Bool) (e : Int) : Fit v e ↔ IsNum neg e (dig (2 ^ 64) v) := by
  have h0 : v ≠ 0 := by omega
  have hne : dig (2 ^ 64) v ≠ [] := fun e => h0 ((dig_nil (by decide)).1 e)
  have ht := trimL_right _ (dig_last (B := 2 ^ 64) (by decide) v)
  have hh : (dig (2 ^ 64) v).headD 0 % 2 = 1 := by
    rw [dig_step (by decide) h0]
    show v % 2 ^ 64 % 2 = 1
    rw [show (2 : Nat) ^ 64 = 18446744073709551616 from rfl]
    omega
  unfold IsNum Fit
  rw [if_neg hne, ht]
  exact ⟨fun h => ⟨rfl, h.1, hh, h.2.1, h.2.2⟩, fun h => ⟨h.2.1, h.2.2.2⟩⟩
theorem make_out {neg : Bool} {v : Nat} {e : Int} {neg1 : Bool} {v1 : Nat} {e1 : Int} {neg2 : Bool} {e2 : Int} {L : List Nat} {er : Int} (h1 : OddOut neg v e neg1 v1 e1) (h2 : ValNum neg1 v1 e1 neg2 e2 L er) : MakeOut neg v e neg2 e2 L er := by
  rcases h1 with ⟨h0, rfl, rfl, rfl⟩ | ⟨z, hz, rfl, rfl, rfl⟩
  · rcases h2 with ⟨_, h3, h4, h5, h6⟩ | ⟨h3, _⟩ | ⟨h3, _⟩
    · exact .inl ⟨h0, h3, h4, h5, h6⟩
    · exact absurd rfl h3
    · exact absurd rfl h3
  · have hv1 := hz.2
    have hf := fit_num hv1 neg1 (e + (z : Int))
    refine .inr ⟨z, hz, ?_⟩
    rcases h2 with ⟨h3, _⟩ | ⟨h3, h4, h5, h6, h7, h8⟩ | ⟨h3, h4, rfl, rfl, rfl, h8⟩
    · rw [h3] at hv1; simp at hv1
    · exact .inl ⟨.inr (.inr fun h => h4 (hf.2 h)), h5, h6, h7, h8⟩
    · exact .inr ⟨by have := h4.2.2; omega, by have := h4.2.1; omega, hf.1 h4, rfl, rfl, rfl, h8⟩
theorem odd_out_len {w : World} {a : Option Addr} {n c v : Nat} (h : DigIn w a n c v) (h0 : v ≠ 0) : n ≠ 0 := fun e => h0 ((dig_nil (B := 2 ^ 32) (by decide)).1 (List.length_eq_zero_iff.1 (by rw [h.len, e])))
end Go.Proofs.YtmocmkfpblakbaaDoor
