/- The walk of ScriptShows. Condition: the arguments lie as they say; the world is laid. -/
import Derived.Test.YtifdmgloheampaaDoorSeat
import Derived.Test.YtifdmgloheampaaDoorScriptKnw
import Derived.Test.YtifdmgloheampaaDoorScriptLight
import Derived.Test.YtifdmgloheampaaDoorScriptL
namespace Go.Proofs.YtifdmgloheampaaDoor
open Go.RowKit DiskM ScriptM

set_option maxRecDepth 100000 in
set_option maxHeartbeats 4000000 in
theorem walkScriptShows (a : Option Addr) (n c : Nat) (xs : List ActV) (ka : Option Addr) (kn kc : Nat) (ls : List Nat) (w : World) (hxn : xs.length = n) (hnm : n ≤ 9223372036854775807) (hrv : RdV w w.heap.size a xs)
    (hln : ls.length = kn) (hn : kn ≤ 9223372036854775807) (hrd : RdU w w.heap.size ka ls) (hx : ∀ x ∈ ls, x < 18446744073709551616) (hl : Laid w) :
    Calls Tryd.prog 3 #[.slice a n c, .slice ka kn kc] w fun e w' => e = .returned (.bool true) ∧ Below w.heap.size w w' := by
  have hk := scriptknown_any w hl
  have HL := Lib.hid (And.intro hl (And.intro hrd hx))
  have HRV := Lib.hid hrv
  have HK := Lib.hid hk
  have HXN := Lib.hid hxn
  clear hl hk hrd hx hrv hxn
  go_enter Tryd.func3, Tryd.ntmps3
  go_wp2_with (refine HK.out.mono ?_; rintro e w1 ⟨rfl, hb1⟩; have HB1 := Lib.hid hb1; clear hb1)
  have HRV1 := Lib.hid (HRV.out.step HB1.out)
  refine (light_any a n c xs w1 HXN.out hnm HRV1.out).mono ?_
  rintro e w1' ⟨⟨b, rfl, hb40⟩, rfl⟩
  cases b with
  | false =>
    clear hb40
    go_wp2_with fail
    go_ret
    exact ⟨rfl, HB1.out⟩
  | true =>
    have h40 : n ≤ 40 := hb40 rfl
    clear hb40
    go_wp2_with fail
    go_loopw [5] (fun v wr => ∃ k : Nat, k ≤ n ∧ v = .int .i64 (k : Int) ∧ Below w.heap.size w wr) (fun v _ => n - (intOf v).toNat)
    case atStart => exact ⟨0, Nat.zero_le _, rfl, HB1.out⟩
    case round =>
      obtain ⟨k, hk, rfl, hbr⟩ := hrel
      by_cases hlt : k < n
      · obtain ⟨v, hv⟩ : ∃ v, xs[k]? = some v := ⟨_, List.getElem?_eq_getElem (by rw [HXN.out]; exact hlt)⟩
        obtain ⟨b, o, rfl, hb, hc, hok⟩ := (HRV.out.step hbr).at_ hv
        obtain ⟨⟨kd, vn, dn, va, vk, vc, nm, m⟩, keep⟩ := v
        have hlt' : (k : Int) < (n : Int) := by omega
        obtain ⟨X, hX⟩ : ∃ X : ActC, X = ⟨kd, vn, dn, va, vk, vc, nm, m⟩ := ⟨_, rfl⟩
        have hcells : X.cells = #[.int .i64 kd, .int .i64 vn, .bool dn, .slice va vk vc, .string nm, .int .u32 (m : Int)] := by rw [hX]; rfl
        have hnm2 : X.nm.size ≤ maxLen := by rw [hX]; exact hok.nm
        have hkn2 : X.kn ≤ 9223372036854775807 := by rw [hX]; exact hok.most
        have heq : rightB X = rightC X := by
          have hlen : keep.length = X.kn := by rw [hX]; exact hok.len
          rw [rightB_right X keep hlen, rightC_right X keep hlen]
        obtain ⟨r, hr⟩ : ∃ r, rightC X = r := ⟨_, rfl⟩
        have h1 := fun V => sright_any X V hnm2 hkn2
        have h2 := fun V => rright_any X V hnm2 hkn2
        rw [heq, hr, hcells] at h1
        rw [hr, hcells] at h2
        have hbl : b < wr.heap.size := hb
        have k0 : wr.drew.cell? ⟨b, o + k * 6, none⟩ = some (.int .i64 kd) := hc 0 _ rfl
        have k1 : wr.drew.cell? ⟨b, o + k * 6 + 1, none⟩ = some (.int .i64 vn) := hc 1 _ rfl
        have k2 : wr.drew.cell? ⟨b, o + k * 6 + 2, none⟩ = some (.bool dn) := hc 2 _ rfl
        have k3 : wr.drew.cell? ⟨b, o + k * 6 + 3, none⟩ = some (.slice va vk vc) := hc 3 _ rfl
        have k4 : wr.drew.cell? ⟨b, o + k * 6 + 4, none⟩ = some (.string nm) := hc 4 _ rfl
        have k5 : wr.drew.cell? ⟨b, o + k * 6 + 5, none⟩ = some (.int .u32 (m : Int)) := hc 5 _ rfl
        have HH := Lib.hid (And.intro hbr (And.intro h1 h2))
        clear hbr h1 h2 hc hok hv hX hcells heq hr hnm2 hkn2
        go_wp2_with fail
        go_region_law (first
          | (refine step_call (by rfl) 10 #[.agg #[.int .i64 kd, .int .i64 vn, .bool dn, .slice va vk vc, .string nm, .int .u32 (m : Int)]] (by simp [go_sem]) ?_; refine (HH.out.2.1 _).mono ?_; rintro e wA ⟨rfl, hbA⟩; refine ⟨_, rfl, ?_⟩; (have q0 := (hbA.cell (p := ⟨b, o + k * 6, none⟩) hbl).trans k0); (have q1 := (hbA.cell (p := ⟨b, o + k * 6 + 1, none⟩) hbl).trans k1); (have q2 := (hbA.cell (p := ⟨b, o + k * 6 + 2, none⟩) hbl).trans k2); (have q3 := (hbA.cell (p := ⟨b, o + k * 6 + 3, none⟩) hbl).trans k3); (have q4 := (hbA.cell (p := ⟨b, o + k * 6 + 4, none⟩) hbl).trans k4); (have q5 := (hbA.cell (p := ⟨b, o + k * 6 + 5, none⟩) hbl).trans k5); (have HA := Lib.hid (Below.next0 (show Below w.heap.size w wr.drew from HH.out.1.drew) hbA)); clear hbA)
          | (refine step_call (by rfl) 11 #[.agg #[.int .i64 kd, .int .i64 vn, .bool dn, .slice va vk vc, .string nm, .int .u32 (m : Int)]] (by simp [go_sem]) ?_; refine (HH.out.2.2 _).mono ?_; rintro e wB ⟨rfl, hbB⟩; refine ⟨_, rfl, ?_⟩; (have HBB := Lib.hid (Below.next0 HA.out hbB)); clear hbB))
        all_goals go_wp2_with fail
        all_goals exact ⟨⟨k + 1, by omega, by simp, HBB.out⟩, by simp only [intOf]; omega⟩
      · obtain rfl : k = n := by omega
        have hlt' : ¬ ((k : Int) < (k : Int)) := by omega
        have HBR := Lib.hid hbr
        obtain ⟨T1, hT1⟩ : ∃ T, showM (xs.map ActV.abs) = T := ⟨_, rfl⟩
        have HT1 := Lib.hid hT1
        clear hbr hT1
        go_wp2_with (first
          | (refine (deckof_any ka kn kc ls _ hln hn ((HL.out.2.1.keep fun p hp => HBR.out.cell hp).more HBR.out.size) HL.out.2.2).mono ?_; rintro e w2 ⟨rfl, hd2, hb2⟩; have HD2 := Lib.hid (And.intro hd2 hb2); clear hd2 hb2)
          | (refine (script_any _ 0 12 _ HD2.out.1 (by decide) (by decide)).mono ?_; rintro e w3 ⟨vs, sa, sc, j, rfl, hvl, hs⟩; have HS := Lib.hid hs; have HB3 := Lib.hid (Below.next0 HBR.out (hs.below HD2.out.2 (Nat.le_refl _))); clear hs))
        have hsh1 := show_any a k c xs w3 HXN.out (by omega) (HRV.out.step HB3.out) (HL.out.1.below HB3.out)
        rw [HT1.out] at hsh1
        have HSH1 := Lib.hid hsh1
        clear hsh1
        refine HSH1.out.mono ?_
        rintro e w4 ⟨rfl, hb4⟩
        have HB4 := Lib.hid (Below.next0 HB3.out hb4)
        have hv4 := HS.out.acts.rdv.step hb4
        have hsh2 := refshow_any a k c xs w4 HXN.out (by omega) (HRV.out.step HB4.out)
        rw [HT1.out] at hsh2
        have HSH2 := Lib.hid hsh2
        have HV4 := Lib.hid hv4
        clear hsh2 hv4 hb4
        go_wp2_with (refine HSH2.out.mono ?_; rintro e w5 ⟨rfl, hb5⟩; have HB5 := Lib.hid (Below.next0 HB4.out hb5); have HV5 := Lib.hid (HV4.out.step hb5); clear hb5)
        obtain ⟨T2, hT2⟩ : ∃ T, showM (vs.map ActV.abs) = T := ⟨_, rfl⟩
        have hsh3 := show_any sa vs.length sc vs w5 rfl (by omega) HV5.out (HL.out.1.below HB5.out)
        rw [hT2] at hsh3
        have HSH3 := Lib.hid hsh3
        have HT2 := Lib.hid hT2
        clear hsh3 hT2
        refine HSH3.out.mono ?_
        rintro e w6 ⟨rfl, hb6⟩
        have HB6 := Lib.hid (Below.next0 HB5.out hb6)
        have hsh4 := refshow_any sa vs.length sc vs w6 rfl (by omega) (HV5.out.step hb6)
        rw [HT2.out] at hsh4
        have HSH4 := Lib.hid hsh4
        clear hsh4 hb6
        go_wp2_with (refine HSH4.out.mono ?_; rintro e w7 ⟨rfl, hb7⟩; have HB7 := Lib.hid (Below.next0 HB6.out hb7); clear hb7)
        go_ret
        exact ⟨rfl, HB7.out⟩
end Go.Proofs.YtifdmgloheampaaDoor
