/- The walk of ScriptBack. Condition: the numbers lie as the argument says; the world is laid. -/
import Derived.Test.YtifdmgloheampaaDoorSeat
import Derived.Test.YtifdmgloheampaaDoorScriptKnw
import Derived.Test.YtifdmgloheampaaDoorScriptY
namespace Go.Proofs.YtifdmgloheampaaDoor
open Go.RowKit DiskM ScriptM

set_option maxRecDepth 100000 in
set_option maxHeartbeats 4000000 in
theorem walkScriptBack (a : Option Addr) (n c : Nat) (ls : List Nat) (w : World) (hln : ls.length = n) (hn : n ≤ 9223372036854775807) (hrd : RdU w w.heap.size a ls) (hx : ∀ x ∈ ls, x < 18446744073709551616) (hl : Laid w) :
    Calls Tryd.prog 6 #[.slice a n c] w fun e w' => e = .returned (.bool true) ∧ Below w.heap.size w w' := by
  have hk := scriptknown_any w hl
  have HL := Lib.hid (And.intro hl (And.intro hrd hx))
  have HK := Lib.hid hk
  clear hl hk hrd hx
  go_enter Tryd.func6, Tryd.ntmps6
  go_wp2_with (first
    | (refine HK.out.mono ?_; rintro e w1 ⟨rfl, hb1⟩; have HB1 := Lib.hid hb1; clear hb1)
    | (refine (deckof_any a n c ls _ hln hn ((HL.out.2.1.keep fun p hp => HB1.out.cell hp).more HB1.out.size) HL.out.2.2).mono ?_; rintro e w2 ⟨rfl, hd2, hb2⟩; have HD2 := Lib.hid (And.intro hd2 hb2); clear hd2 hb2)
    | (refine (script_any _ 0 12 _ HD2.out.1 (by decide) (by decide)).mono ?_; rintro e w3 ⟨vs, sa, sc, j, rfl, hvl, hs⟩; have HS := Lib.hid hs; have HB3 := Lib.hid (Below.next0 HB1.out (hs.below HD2.out.2 (Nat.le_refl _))); clear hs))
  have hrv := HS.out.acts.rdv
  have HRV := Lib.hid hrv
  have HL3 := Lib.hid (HL.out.1.below HB3.out)
  clear hrv
  go_loop [4] (fun v => ∃ k : Nat, k ≤ vs.length ∧ v = .int .i64 (k : Int) ∧ ∀ x ∈ vs.take k, ¬ (x.x.kind = 8 ∧ x.x.mask = 0)) (fun v => vs.length - (intOf v).toNat)
  case atStart => exact ⟨0, Nat.zero_le _, rfl, by simp⟩
  case round =>
    obtain ⟨k, hk, rfl, hall⟩ := hrel
    by_cases hlt : k < vs.length
    · obtain ⟨v, hv⟩ : ∃ v, vs[k]? = some v := ⟨_, List.getElem?_eq_getElem hlt⟩
      obtain ⟨b, o, rfl, hb, hc, hok⟩ := HRV.out.at_ hv
      obtain ⟨⟨kd, vn, dn, ka, kn, kc, nm, m⟩, keep⟩ := v
      have k0 : w3.cell? ⟨b, o + k * 6, none⟩ = some (.int .i64 kd) := hc 0 _ rfl
      have k5 : w3.cell? ⟨b, o + k * 6 + 5, none⟩ = some (.int .u32 (m : Int)) := hc 5 _ rfl
      have hlt' : (k : Int) < (vs.length : Int) := by omega
      have HH := Lib.hid (And.intro hall hv)
      clear hall hc hok hv
      have more : ¬ (kd = 8 ∧ m = 0) → ∀ x ∈ vs.take (k + 1), ¬ (x.x.kind = 8 ∧ x.x.mask = 0) := by
        intro hn x hx
        rw [List.take_add_one, HH.out.2] at hx
        rcases List.mem_append.1 hx with hx | hx
        · exact HH.out.1 x hx
        · simp at hx; subst hx; exact hn
      have HM := Lib.hid more
      clear more
      by_cases h8 : kd = 8
      · subst h8
        by_cases h0 : m = 0
        · subst h0
          go_wp2_with (refine (show_any _ _ sc vs w3 rfl (by omega) HRV.out HL3.out).mono ?_; rw [show_false vs k _ HH.out.2 (flip_wrong ⟨rfl, rfl⟩)]; rintro e w4 ⟨rfl, hb4⟩; have HB4 := Lib.hid (Below.next0 HB3.out hb4); clear hb4)
          go_ret
          exact ⟨rfl, HB4.out⟩
        · have h0' : ((m : Int) == 0) = false := by simp; omega
          go_wp2_with fail
          exact ⟨⟨k + 1, by omega, by simp, HM.out (by omega)⟩, by simp only [intOf]; omega⟩
      · have h8' : (kd == 8) = false := by simp [h8]
        go_wp2_with fail
        exact ⟨⟨k + 1, by omega, by simp, HM.out (by omega)⟩, by simp only [intOf]; omega⟩
    · obtain rfl : k = vs.length := by omega
      rw [List.take_length] at hall
      have hr := drawn_right HS.out.drawn hall
      have hm := HS.out.masks
      have hsh : showM (vs.map ActV.abs) = ((vs.map ActV.abs).map ScriptM.line).flatten := by
        rw [show_true vs fun v hv => (hr v hv).1, List.map_map]; rfl
      have hlen := show_len HS.out.drawn hm
      have hpar : parse 0 (showM (vs.map ActV.abs)) = .ok (vs.map ActV.abs) := by
        rw [hsh]
        exact parse_shown _ (fun x hx => by obtain ⟨v, hv, rfl⟩ := List.mem_map.1 hx; exact ⟨(hr v hv).1, hm v hv⟩) 0
      obtain ⟨T, hT⟩ : ∃ T, showM (vs.map ActV.abs) = T := ⟨_, rfl⟩
      have hsho := show_any sa vs.length sc vs w3 rfl (by omega) HRV.out HL3.out
      rw [hT] at hsho hpar hlen
      have HSH := Lib.hid (And.intro hsho (And.intro hpar hlen))
      clear hr hm hsh hlen hpar hT hsho hall
      go_wp2_with (refine HSH.out.1.mono ?_; rintro e w4 ⟨rfl, hb4⟩; have HB4 := Lib.hid hb4; clear hb4)
      refine (parse_any ⟨T.toArray⟩ w4 (by rw [sv_size]; have := HSH.out.2.2; omega) (HL3.out.below HB4.out)).mono ?_
      rintro e w5 ⟨h5, hb5⟩
      rw [show (⟨T.toArray⟩ : ByteArray).data.toList = T by simp] at h5
      rcases h5 with ⟨ys, a5, c5, hy, _, rfl, hat⟩ | ⟨p, hp, _⟩
      · rw [HSH.out.2.1] at hy
        injection hy with hy
        have hyl : ys.length = vs.length := by have := congrArg List.length hy; simpa using this.symm
        rw [hyl]
        have hac := acts_any sa a5 vs.length sc c5 vs ys w5 rfl hyl hy (by omega) ((HRV.out.step HB4.out).step hb5) hat.rdv
        have HAC := Lib.hid hac
        have HB5 := Lib.hid (Below.next0 (Below.next0 HB3.out HB4.out) hb5)
        clear hac hat hy hb5 hyl
        go_wp2_with (refine HAC.out.mono ?_; rintro e w6 ⟨rfl, hb6⟩; have HB6 := Lib.hid (Below.next0 HB5.out hb6); clear hb6)
        go_ret
        exact ⟨rfl, HB6.out⟩
      · rw [HSH.out.2.1] at hp; cases hp
end Go.Proofs.YtifdmgloheampaaDoor
