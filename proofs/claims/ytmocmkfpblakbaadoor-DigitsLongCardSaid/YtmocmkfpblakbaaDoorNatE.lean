/- The walk of the words' Trim. Condition: the argument lies as a slice of words, not too long and not 0. -/
import Derived.Test.YtmocmkfpblakbaaDoorNatB
namespace Go.Proofs.YtmocmkfpblakbaaDoor
open Go.RowKit WordsM

set_option maxRecDepth 100000 in
theorem nattrim_any (a : Option Addr) (n c : Nat) (ls : List Nat) (w : World) (h : WordsIn w a n c ls) (hn : n ≤ 100000) (h0 : val (2 ^ 64) ls ≠ 0) :
    Calls Tryd.prog 54 #[.slice a n c] w (NumOut w (val (2 ^ 64) ls)) := by
  have hc := cut_any a n c ls w h
  have hT := fun W (hb : Below w.heap.size w W) => (h.step hb).trim
  have htd : trimL ls = dig (2 ^ 64) (val (2 ^ 64) ls) := trim_dig (by decide) h.low
  have hne : trimL ls ≠ [] := fun e => h0 (by rw [← val_trim ls, e]; rfl)
  have htl := trim_len ls
  have hln := h.len
  obtain ⟨b, o, rfl⟩ : ∃ b o, a = some ⟨b, o, none⟩ := by
    rcases (hT w (Below.refl _ _)).rd with e | ⟨b, o, e, _⟩
    · exact absurd e hne
    · exact ⟨b, o, e⟩
  rw [htd] at hc hT htl
  obtain ⟨D, hD⟩ : ∃ D, dig (2 ^ 64) (val (2 ^ 64) ls) = D := ⟨_, rfl⟩
  have hDl : Low (2 ^ 64) D := hD ▸ dig_low (by decide) _
  have hD0 : D ≠ [] := by rw [← hD, ← htd]; exact hne
  rw [hD] at hc hT htl
  obtain ⟨i0, hi0, hz0, hz1, hz2⟩ : ∃ i0 : TypeInfo, Tryd.prog.info? 41 = some i0 ∧ i0.zero = some (.int .u64 0) ∧ i0.size = 1 ∧ i0.bytes = 8 := by
    have := info_u64
    cases hi : Tryd.prog.info? 41 with
    | none => rw [hi] at this; cases this
    | some i0 =>
      rw [hi] at this
      simp only [Option.map_some, Option.some.injEq, Prod.mk.injEq] at this
      exact ⟨i0, rfl, this.1, this.2.1, this.2.2⟩
  have hcl := fun W (hW : WordsIn W (some ⟨b, o, none⟩) D.length c D) => Tryd.slices_Clone i0 (.int .u64 0) 1 8 hi0 hz0 hz1 hz2 rfl (by decide) size_u64 b o D.length c (D.map (nv .u64)) W (by simp) (by unfold maxLen; omega) (by omega) (fun j u hu => by
    rw [List.getElem?_map] at hu
    cases hx : D[j]? with
    | none => rw [hx] at hu; cases hu
    | some x =>
      rw [hx] at hu
      simp only [Option.map_some, Option.some.injEq] at hu
      subst hu
      obtain ⟨b', o', e, _, hc'⟩ := hW.rd.at_ hx
      injection e with e; injection e with e1 e2; subst e1 e2
      exact hc') (nv_one _ _)
  have HC := Lib.hid (And.intro hc (And.intro hT hcl))
  have HD := Lib.hid hD
  clear hc hT hcl htd hne h hi0 hz0 hz1 hz2 h0
  go_enter Tryd.func54, Tryd.ntmps54
  go_wp2_with (first
    | (go_at_call_of 36 (some ⟨b, o, none⟩ : Option Addr); refine HC.out.1.mono ?_; rintro e w1 ⟨rfl, hb1⟩; have HB1 := Lib.hid hb1; clear hb1)
    | (refine (HC.out.2.2 _ (HC.out.2.1 _ HB1.out)).mono ?_; rintro e w2 ⟨v', rfl, hown, hnn, hb2⟩; have HB2 := Lib.hid (And.intro hown (And.intro hnn hb2)); clear hown hnn hb2))
  go_ret
  obtain ⟨_, ⟨e, _⟩ | ⟨g, cap, cur, rfl, hg0, hg, hnc, hcm, hcs, htk⟩⟩ := HB2.out.1
  · exact absurd e HB2.out.2.1
  · refine ⟨_, _, _, rfl, ?_, Below.next0 HB1.out HB2.out.2.2⟩
    rw [HD.out]
    refine ⟨rfl, hnc, by simpa [maxLen] using hcm, hDl, .inr ⟨g, 0, rfl, (Array.getElem?_eq_some_iff.1 hg).1, fun j x hx => ?_⟩⟩
    rw [cell_of_row _ _ _ _ _ _ hg, Nat.zero_add]
    have hj : j < D.length := (List.getElem?_eq_some_iff.1 hx).1
    have h1 : (cur.toList.take (D.length * 1))[j]? = some (nv .u64 x) := by rw [htk, List.getElem?_map, hx]; rfl
    rw [List.getElem?_take, if_pos (by omega), Array.getElem?_toList] at h1
    exact h1
end Go.Proofs.YtmocmkfpblakbaaDoor
