/- What the law's known asks: plain. -/
import Derived.Test.YtifdmgloheampaaDoorScriptLines
namespace Go.Proofs.YtifdmgloheampaaDoor
open DiskM ScriptM
def knownL : List ScriptM.Act := [⟨2, 5, false, [], [], 0⟩, ⟨5, 2, false, [], [], 0⟩, ⟨6, 0, false, [255], [], 0⟩, ⟨4, 0, false, [], [], 0⟩, ⟨8, 9, false, [], [108, 111, 103], 160⟩]
def knownT : List UInt8 := [103, 111, 32, 53, 10, 97, 114, 109, 32, 50, 32, 108, 111, 115, 116, 10, 99, 114, 97, 115, 104, 32, 50, 53, 53, 10, 111, 112, 101, 110, 10, 102, 108, 105, 112, 32, 108, 111, 103, 32, 57, 32, 97, 48, 10]
theorem known_right : ∀ a ∈ knownL, right a = true ∧ a.mask < 4294967296 := by
  intro a ha
  simp only [knownL, List.mem_cons, List.not_mem_nil, or_false] at ha
  rcases ha with rfl | rfl | rfl | rfl | rfl <;> decide
theorem known_text : (knownL.map ScriptM.line).flatten = knownT := by
  have d5 : dec 5 = [53] := by unfold dec; rw [Lib.decDigits]; rfl
  have d2 : dec 2 = [50] := by unfold dec; rw [Lib.decDigits]; rfl
  have d9 : dec 9 = [57] := by unfold dec; rw [Lib.decDigits]; rfl
  have d25 : dec 25 = [50, 53] := by unfold dec; rw [Lib.decDigits, Lib.decDigits]; rfl
  have d255 : dec 255 = [50, 53, 53] := by unfold dec; rw [Lib.decDigits, Lib.decDigits, Lib.decDigits]; rfl
  have h160 : hexD 160 = [97, 48] := by rw [hexD, hexD]; rfl
  simp [knownL, ScriptM.line, shown, fields, glue, word, hasN, d5, d2, d9, d255, h160, lostW, knownT]
theorem known_parse : parse 0 knownT = .ok knownL := by rw [← known_text]; exact parse_shown _ known_right 0
theorem open_line : ScriptM.line ⟨4, 0, false, [], [], 0⟩ = [111, 112, 101, 110, 10] := by
  simp [ScriptM.line, shown, fields, glue, word, hasN]
theorem known_bad : parse 0 [111, 112, 101, 110, 10, 103, 111, 10] = .error 5 := by
  have h := parse_line (a := ⟨4, 0, false, [], [], 0⟩) (by decide) (by decide) 0 [103, 111, 10]
  rw [open_line] at h
  have hlen : ([111, 112, 101, 110, 10] : List UInt8).length = 5 := rfl
  have h2 : parse 5 [103, 111, 10] = .error 5 := by
    rw [parse_cons _ _ (by simp)]
    have : actM (List.take (nl [103, 111, 10]) [103, 111, 10]) = none := by decide
    rw [this]
  rw [hlen, Nat.zero_add, h2] at h
  exact h
end Go.Proofs.YtifdmgloheampaaDoor
