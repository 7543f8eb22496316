/- What is shown is parsed: plain. -/
import Derived.Test.YtifdmgloheampaaDoorScriptX
namespace Go.Proofs.YtifdmgloheampaaDoor
open DiskM ScriptM
theorem glue_ten : ∀ (l : List (List UInt8)), (∀ x ∈ l, clean x) → ∀ c ∈ glue l, c ≠ 10
  | [], _, c, hc => by cases hc
  | [x], h, c, hc => (h x (by simp) c hc).2
  | x :: y :: r, h, c, hc => by
    have hc : c ∈ x ++ 32 :: glue (y :: r) := hc
    rcases List.mem_append.1 hc with hc | hc
    · exact (h x (by simp) c hc).2
    · rcases List.mem_cons.1 hc with rfl | hc
      · decide
      · exact glue_ten (y :: r) (fun z hz => h z (by simp at hz ⊢; right; exact hz)) c hc
theorem parse_line {a : ScriptM.Act} (h : right a = true) (hm : a.mask < 4294967296) (p : Nat) (r : List UInt8) : parse p (ScriptM.line a ++ r) = match parse (p + (ScriptM.line a).length) r with | .error e => .error e | .ok l => .ok (a :: l) := by
  have hn : nl (ScriptM.line a ++ r) = (ScriptM.line a).length := by
    unfold ScriptM.line
    rw [List.append_assoc, show [10] ++ r = 10 :: r from rfl, nl_line (shown a) r (glue_ten _ (fields_clean h))]
    simp
  rw [parse_cons p _ (by unfold ScriptM.line; simp), hn, List.take_left, actM_line h hm, List.drop_left]
  simp only
  cases parse (p + (ScriptM.line a).length) r <;> rfl
/-- the text of right acts tells them -/
theorem parse_shown : ∀ (l : List ScriptM.Act), (∀ a ∈ l, right a = true ∧ a.mask < 4294967296) → ∀ p, parse p (l.map ScriptM.line).flatten = .ok l
  | [], _, p => parse_nil p
  | a :: r, h, p => by
    obtain ⟨h1, h2⟩ := h a (by simp)
    rw [List.map_cons, List.flatten_cons, parse_line h1 h2, parse_shown r (fun b hb => h b (by simp [hb]))]
end Go.Proofs.YtifdmgloheampaaDoor
