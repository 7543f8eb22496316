/- The walk of the law's known. Condition: the world is laid. -/
import Derived.Test.YtifdmgloheampaaDoorScriptLight
import Derived.Test.YtifdmgloheampaaDoorScriptKnown
namespace Go.Proofs.YtifdmgloheampaaDoor
open Go.RowKit DiskM ScriptM
set_option maxRecDepth 100000 in
set_option maxHeartbeats 4000000 in
theorem scriptknown_any (w : World) (hl : Laid w) :
    Calls Tryd.prog 8 #[] w fun e w' => e = .returned (.bool true) ∧ Below w.heap.size w w' := by
  have HL := Lib.hid hl
  clear hl
  obtain ⟨s, hs⟩ : ∃ s : ByteArray, s = ⟨knownT.toArray⟩ := ⟨_, rfl⟩
  have hp1 : ∀ W, Laid W → Calls Tryd.prog 18 #[.string ⟨#[103, 111, 32, 53, 10, 97, 114, 109, 32, 50, 32, 108, 111, 115, 116, 10, 99, 114, 97, 115, 104, 32, 50, 53, 53, 10, 111, 112, 101, 110, 10, 102, 108, 105, 112, 32, 108, 111, 103, 32, 57, 32, 97, 48, 10]⟩] W (ParseIs W knownT) := fun W hW => parse_any ⟨knownT.toArray⟩ W (by decide) hW
  have hp2 : ∀ W, Laid W → Calls Tryd.prog 18 #[.string ⟨#[111, 112, 101, 110, 10, 103, 111, 10]⟩] W (ParseIs W [111, 112, 101, 110, 10, 103, 111, 10]) := fun W hW => parse_any ⟨#[111, 112, 101, 110, 10, 103, 111, 10]⟩ W (by decide) hW
  clear hs
  have HP1 := Lib.hid hp1
  have HP2 := Lib.hid hp2
  clear hp1 hp2
  go_enter Tryd.func8, Tryd.ntmps8
  go_wp2_with fail
  refine (HP1.out _ HL.out).mono ?_
  rintro e w1 ⟨hor, hb1⟩
  rcases hor with ⟨vs, a, c, hp, _, rfl, ha⟩ | ⟨p, hp, rfl⟩
  rotate_left
  · rw [known_parse] at hp; cases hp
  rw [known_parse] at hp
  injection hp with hp
  have hlen : vs.length = 5 := by have := congrArg List.length hp; simpa [knownL] using this.symm
  have HA := Lib.hid (And.intro hp ha)
  have HB1 := Lib.hid hb1
  have HLen := Lib.hid hlen
  rw [hlen]
  clear hp ha hb1 hlen
  go_wp2_with fail
  refine (HP2.out _ (HL.out.below HB1.out)).mono ?_
  rintro e w2 ⟨hor, hb2⟩
  rcases hor with ⟨us, b, d, hq, _, rfl, _⟩ | ⟨p, hq, rfl⟩
  · rw [known_bad] at hq; cases hq
  rw [known_bad] at hq
  injection hq with hq
  subst hq
  have HB2 := Lib.hid hb2
  have hr2 := (HA.out.2.rdv).step hb2
  clear hb2
  have hvs := HA.out.1
  obtain ⟨v0, v1, v2, v3, v4, rfl⟩ : ∃ v0 v1 v2 v3 v4, vs = [v0, v1, v2, v3, v4] := by
    have h := HLen.out
    match vs, h with
    | [v0, v1, v2, v3, v4], _ => exact ⟨v0, v1, v2, v3, v4, rfl⟩
  obtain ⟨g, o, rfl, hg, hc0, hk0⟩ := hr2.at_ (j := 0) (v := v0) rfl
  obtain ⟨g2, o2, e2, hg2, hc2, hk2⟩ := hr2.at_ (j := 2) (v := v2) rfl
  injection e2 with e2; injection e2 with e2 e2'; subst e2; subst e2'
  obtain ⟨g4, o4, e4, hg4, hc4, hk4⟩ := hr2.at_ (j := 4) (v := v4) rfl
  injection e4 with e4; injection e4 with e4 e4'; subst e4; subst e4'
  have hsh := show_any (some ⟨g, o, none⟩) 5 c [v0, v1, v2, v3, v4] w2 rfl (by decide) hr2 (HL.out.below (Below.next0 HB1.out HB2.out))
  have hmap : [v0, v1, v2, v3, v4].map ActV.abs = knownL := hvs.symm
  have hst : showM ([v0, v1, v2, v3, v4].map ActV.abs) = knownT := by
    rw [hmap]
    unfold showM
    rw [if_pos (List.all_eq_true.2 fun a ha => (known_right a ha).1), known_text]
  rw [hst] at hsh
  have H0 : v0.abs = ⟨2, 5, false, [], [], 0⟩ := by have := congrArg (fun l => l[0]?) hmap; simpa [knownL] using this
  have H2 : v2.abs = ⟨6, 0, false, [255], [], 0⟩ := by have := congrArg (fun l => l[2]?) hmap; simpa [knownL] using this
  have H4 : v4.abs = ⟨8, 9, false, [], [108, 111, 103], 160⟩ := by have := congrArg (fun l => l[4]?) hmap; simpa [knownL] using this
  have H4m : v4.x.mask = 160 := congrArg ScriptM.Act.mask H4
  have H2k : v2.keep = [255] := congrArg ScriptM.Act.keep H2
  have hrt0 : ∀ W, Calls Tryd.prog 10 #[.agg v0.x.cells] W fun e w' => e = .returned (.bool true) ∧ Below W.heap.size W w' := fun W => by
    have h := sright_any v0.x W hk0.nm hk0.most
    rw [rightB_right v0.x v0.keep hk0.len, show v0.x.abs v0.keep = v0.abs from rfl, H0] at h
    exact h
  have hk2' := hk2
  obtain ⟨⟨kd, vn, dn, ka, kn, kc, nm, m⟩, keep⟩ := v0
  have H0n : vn = 5 := congrArg ScriptM.Act.n H0
  subst H0n
  have a0 : w2.cell? ⟨g, o, none⟩ = some (.int .i64 kd) := hc0 0 _ rfl
  have a1 : w2.cell? ⟨g, o + 1, none⟩ = some (.int .i64 5) := hc0 1 _ rfl
  have a2 : w2.cell? ⟨g, o + 2, none⟩ = some (.bool dn) := hc0 2 _ rfl
  have a3 : w2.cell? ⟨g, o + 3, none⟩ = some (.slice ka kn kc) := hc0 3 _ rfl
  have a4 : w2.cell? ⟨g, o + 4, none⟩ = some (.string nm) := hc0 4 _ rfl
  have a5 : w2.cell? ⟨g, o + 5, none⟩ = some (.int .u32 (m : Int)) := hc0 5 _ rfl
  obtain ⟨⟨kd2, vn2, dn2, ka2, kn2, kc2, nm2, m2⟩, keep2⟩ := v2
  have hkp : keep2 = [255] := H2k
  have hkl : keep2.length = kn2 := hk2.len
  obtain rfl : kn2 = 1 := by rw [← hkl, hkp]; rfl
  have b3 : w2.cell? ⟨g, o + 15, none⟩ = some (.slice ka2 1 kc2) := hc2 3 _ rfl
  obtain ⟨gk, ok, rfl, hgk, hck⟩ : ∃ gk ok, ka2 = some ⟨gk, ok, none⟩ ∧ gk < w2.heap.size ∧ w2.cell? ⟨gk, ok, none⟩ = some (.int .u8 255) := by
    rcases hk2.rd with h | ⟨gk, ok, e, hl, hcc⟩
    · have h : keep2 = [] := h
      rw [hkp] at h; cases h
    · have hcc : ∀ (j : Nat) x, keep2[j]? = some x → w2.cell? ⟨gk, ok + j, none⟩ = some (.int .u8 (x.toNat : Int)) := hcc
      exact ⟨gk, ok, e, hl, hcc 0 255 (by rw [hkp]; rfl)⟩
  obtain ⟨⟨kd4, vn4, dn4, ka4, kn4, kc4, nm4, m4⟩, keep4⟩ := v4
  have H4m : m4 = 160 := H4m
  subst H4m
  have c5 : w2.cell? ⟨g, o + 29, none⟩ = some (.int .u32 160) := hc4 5 _ rfl
  have HSH := Lib.hid hsh
  simp only [ActC.cells] at hrt0
  have HRT := Lib.hid hrt0
  have HBA := Lib.hid (Below.next0 HB1.out HB2.out)
  have HC := Lib.hid (And.intro hg (And.intro a0 (And.intro a1 (And.intro a2 (And.intro a3 (And.intro a4 a5))))))
  clear hsh hrt0 hst hmap hvs hr2 hc0 hc2 hc4 hk0 hk2 hk4 H0 H2 H4 H2k hkp hkl hk2' HA HLen
  go_wp2_with (first | (refine HSH.out.mono ?_; rintro e w3 ⟨rfl, hb3⟩; have HB3 := Lib.hid hb3; obtain ⟨hg', x0, x1, x2, x3, x4, x5⟩ := HC.out; have a0 := (hb3.cell (p := ⟨g, o, none⟩) hg').trans x0; have a1 := (hb3.cell (p := ⟨g, o + 1, none⟩) hg').trans x1; have a2 := (hb3.cell (p := ⟨g, o + 2, none⟩) hg').trans x2; have a3 := (hb3.cell (p := ⟨g, o + 3, none⟩) hg').trans x3; have a4 := (hb3.cell (p := ⟨g, o + 4, none⟩) hg').trans x4; have a5 := (hb3.cell (p := ⟨g, o + 5, none⟩) hg').trans x5; clear hb3 x0 x1 x2 x3 x4 x5) | (refine (HRT.out _).mono ?_; rintro e w4 ⟨rfl, hb4⟩; have HB4 := Lib.hid hb4; clear hb4))
  go_ret
  exact ⟨rfl, Below.next0 (Below.next0 HBA.out HB3.out) HB4.out⟩
end Go.Proofs.YtifdmgloheampaaDoor
