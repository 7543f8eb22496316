/- The walk of the law's reads: both readers say the same of any short text. Condition: the text is short; the world is laid. -/
import Derived.Test.YtifdmgloheampaaDoorScriptY
namespace Go.Proofs.YtifdmgloheampaaDoor
open Go.RowKit DiskM ScriptM
set_option maxRecDepth 100000 in
set_option maxHeartbeats 4000000 in
theorem reads_any (s : ByteArray) (w : World) (hs : s.size ≤ 1000) (hl : Laid w) :
    Calls Tryd.prog 17 #[.string s] w fun e w' => e = .returned (.bool true) ∧ Below w.heap.size w w' := by
  have HL := Lib.hid hl
  clear hl
  have hln : s.data.toList.length = s.size := by rw [Array.length_toList]; rfl
  have HLN := Lib.hid hln
  clear hln
  go_enter Tryd.func17, Tryd.ntmps17
  go_wp2_with fail
  refine (parse_any s _ hs HL.out).mono ?_
  rintro e w1 ⟨hor, hb1⟩
  have HB1 := Lib.hid hb1
  clear hb1
  rcases hor with ⟨vs, a, c, hp, hn, rfl, ha⟩ | ⟨p, hp, rfl⟩
  · have HA := Lib.hid (And.intro hp (And.intro hn ha))
    clear hp hn ha
    go_wp2_with fail
    refine (rparse_any s _ hs).mono ?_
    rintro e w2 ⟨hor, hb2⟩
    have HB2 := Lib.hid hb2
    clear hb2
    rcases hor with ⟨us, b, d, hq, hm, rfl, hb⟩ | ⟨q, hq, rfl⟩
    · have heq : vs.map ActV.abs = us.map ActV.abs := by
        have h1 := HA.out.1
        rw [hq] at h1
        injection h1 with h1
        exact h1.symm
      have hlen : us.length = vs.length := by have := congrArg List.length heq; simpa using this.symm
      rw [hlen]
      have hle : vs.length ≤ 1000 := by have := HA.out.2.1; rw [HLN.out] at this; omega
      have hac : Calls Tryd.prog 19 #[.slice a vs.length c, .slice b vs.length d] w2 fun e w' => e = .returned (.bool true) ∧ Below w2.heap.size w2 w' :=
        acts_any a b vs.length c d vs us w2 rfl hlen heq (by omega) ((HA.out.2.2.rdv).step HB2.out) hb.rdv
      have HAC := Lib.hid hac
      clear hac hq hm hb heq hlen hle
      go_wp2_with (refine HAC.out.mono ?_; rintro e w3 ⟨rfl, hb3⟩; have HB3 := Lib.hid hb3; clear hb3)
      go_ret
      exact ⟨rfl, Below.next0 (Below.next0 HB1.out HB2.out) HB3.out⟩
    · have h1 := HA.out.1
      rw [hq] at h1
      cases h1
  · have HA := Lib.hid hp
    clear hp
    go_wp2_with fail
    refine (rparse_any s _ hs).mono ?_
    rintro e w2 ⟨hor, hb2⟩
    have HB2 := Lib.hid hb2
    clear hb2
    rcases hor with ⟨us, b, d, hq, hm, rfl, hb⟩ | ⟨q, hq, rfl⟩
    · have h1 := HA.out
      rw [hq] at h1
      cases h1
    · have h1 := HA.out
      rw [hq] at h1
      injection h1 with h1
      subst h1
      have hac : Calls Tryd.prog 19 #[.slice none 0 0, .slice none 0 0] w2 fun e w' => e = .returned (.bool true) ∧ Below w2.heap.size w2 w' :=
        acts_any none none 0 0 0 [] [] w2 rfl rfl rfl (by omega) (.inl rfl) (.inl rfl)
      have HAC := Lib.hid hac
      clear hac hq
      go_wp2_with (refine HAC.out.mono ?_; rintro e w3 ⟨rfl, hb3⟩; have HB3 := Lib.hid hb3; clear hb3)
      go_ret
      exact ⟨rfl, Below.next0 (Below.next0 HB1.out HB2.out) HB3.out⟩
end Go.Proofs.YtifdmgloheampaaDoor
