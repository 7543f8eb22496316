/- The walk of the digits' run. No condition. -/
import Derived.Test.YtmocmkfpblakbaaDoorNatB
namespace Go.Proofs.YtmocmkfpblakbaaDoor
open Go.RowKit WordsM

/-- is a byte a decimal digit? -/
def isDig (b : UInt8) : Prop := 48 ≤ b.toNat ∧ b.toNat ≤ 57
/-- how many digits a text begins with -/
def IsRun (s : ByteArray) (k : Nat) : Prop := k ≤ s.size ∧ (∀ j (h : j < s.size), j < k → isDig (s[j]'h)) ∧ ∀ h : k < s.size, ¬ isDig (s[k]'h)
set_option maxRecDepth 100000 in
theorem run_any (s : ByteArray) (w : World) (hs : s.size ≤ 281474976710656) :
    Calls Tryd.prog 17 #[.string s] w fun e w' => (∃ k : Nat, e = .returned (.int .i64 (k : Int)) ∧ IsRun s k) ∧ Below w.heap.size w w' := by
  go_enter Tryd.func17, Tryd.ntmps17
  go_wp2_with fail
  go_step3
  go_wp2_with fail
  go_step3
  go_wp2_with fail
  go_loopw [3] (fun v wr => ∃ k : Nat, v = .int .i64 (k : Int) ∧ k ≤ s.size ∧ (∀ j (h : j < s.size), j < k → isDig (s[j]'h)) ∧ Below w.heap.size w wr) (fun v _ => s.size - (intOf v).toNat)
  case atStart => exact ⟨0, rfl, Nat.zero_le _, fun j _ h => absurd h (Nat.not_lt_zero _), Below.refl _ _⟩
  case round =>
    obtain ⟨k, rfl, hk, hpre, hb⟩ := hrel
    have HP := Lib.hid (And.intro hpre hb)
    clear hpre hb
    by_cases hlt : k < s.size
    · have hlt' : (k : Int) < (s.size : Int) := by omega
      by_cases h1 : (s[k]'hlt).toNat < 48
      · have h1' : ((s[k]'hlt).toNat : Int) < 48 := by omega
        go_wp2_with fail
        first | rw [Exit.noGoto_ret] | skip
        go_ret
        exact ⟨⟨k, rfl, hk, HP.out.1, fun _ h => by have := h.1; omega⟩, HP.out.2⟩
      · have h1' : ¬ ((s[k]'hlt).toNat : Int) < 48 := by omega
        by_cases h2 : 57 < (s[k]'hlt).toNat
        · have h2' : 57 < ((s[k]'hlt).toNat : Int) := by omega
          go_wp2_with fail
          first | rw [Exit.noGoto_ret] | skip
          go_ret
          exact ⟨⟨k, rfl, hk, HP.out.1, fun _ h => by have := h.2; omega⟩, HP.out.2⟩
        · have h2' : ¬ 57 < ((s[k]'hlt).toNat : Int) := by omega
          go_wp2_with fail
          refine ⟨⟨k + 1, by simp, by omega, fun j h hj => ?_, HP.out.2⟩, by simp only [intOf]; omega⟩
          by_cases hjk : j = k
          · subst hjk; exact ⟨by omega, by omega⟩
          · exact HP.out.1 j h (by omega)
    · obtain rfl : k = s.size := by omega
      have hlt' : ¬ ((s.size : Int) < (s.size : Int)) := by omega
      go_wp2_with fail
      first | rw [Exit.noGoto_ret] | skip
      go_ret
      exact ⟨⟨s.size, rfl, hk, HP.out.1, fun h => absurd h hlt⟩, HP.out.2⟩
end Go.Proofs.YtmocmkfpblakbaaDoor
