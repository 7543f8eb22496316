/- The walk of ScriptReads. Condition: the text has a length; the world is laid. -/
import Derived.Test.YtifdmgloheampaaDoorScriptKnw
namespace Go.Proofs.YtifdmgloheampaaDoor
open Go.RowKit DiskM ScriptM
set_option linter.unusedVariables false in
set_option maxRecDepth 100000 in
set_option maxHeartbeats 2000000 in
theorem walkScriptReads (s : ByteArray) (w : World) (hs : s.size ≤ maxLen) (hl : Laid w) :
    Calls Tryd.prog 5 #[.string s] w fun e w' => e = .returned (.bool true) ∧ Below w.heap.size w w' := by
  have hk := scriptknown_any w hl
  have HL := Lib.hid hl
  have HK := Lib.hid hk
  clear hl hk
  by_cases h6 : 600 < s.size
  · have h6' : (600 : Int) < (s.size : Int) := by omega
    go_enter Tryd.func5, Tryd.ntmps5
    go_wp2_with (refine HK.out.mono ?_; rintro e w1 ⟨rfl, hb1⟩; have HB1 := Lib.hid hb1; clear hb1)
    go_ret
    exact ⟨rfl, HB1.out⟩
  · have h6' : ¬ ((600 : Int) < (s.size : Int)) := by omega
    have hr : ∀ W, Laid W → Calls Tryd.prog 17 #[.string s] W fun e w' => e = .returned (.bool true) ∧ Below W.heap.size W w' := fun W hW => reads_any s W (by omega) hW
    have HR := Lib.hid hr
    clear hr
    go_enter Tryd.func5, Tryd.ntmps5
    go_wp2_with (first | (refine HK.out.mono ?_; rintro e w1 ⟨rfl, hb1⟩; have HB1 := Lib.hid hb1; clear hb1) | (refine (HR.out _ (HL.out.below HB1.out)).mono ?_; rintro e w2 ⟨rfl, hb2⟩; have HB2 := Lib.hid hb2; clear hb2))
    go_ret
    exact ⟨rfl, Below.next0 HB1.out HB2.out⟩
end Go.Proofs.YtifdmgloheampaaDoor
