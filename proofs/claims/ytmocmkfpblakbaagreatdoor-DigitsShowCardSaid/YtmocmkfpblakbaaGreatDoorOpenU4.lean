/- A slice of uint64 opened as numbers. Plain lemma, no condition. -/
import Derived.Test.YtmocmkfpblakbaaGreatDoorOpen
import Derived.Test.YtmocmkfpblakbaaGreatDoorDeck
namespace Go.Proofs.YtmocmkfpblakbaaGreatDoor
open Go.ChangeShapes Go.WideShapes Go.ChangeAt Go.RowKit

theorem open_u64s {H : Type} {enc : TypeId × Value → H} {W : World} {sp : Nat → Bool} {hd : Bool} {a : Option Addr} {len cap : Nat} {d : DataW H} {p : List MemPlace}
    (h : DataW.Trod enc Tryz.prog W 0 sp hd 22 (.slice a len cap) d p) :
    ∃ ls : List Nat, ls.length = len ∧ len ≤ 9223372036854775807 ∧ RdU W W.heap.size a ls ∧ ∀ x ∈ ls, x < 18446744073709551616 := by
  obtain ⟨fuel, hf⟩ := h
  rcases open_ints Tryz.underlying22 Tryz.underlying40 (by kernel_rfl) hf with ⟨hcs, _⟩ | ⟨x, l, c, zs, hcs, _, hl, hm, hz, _, hcell, hwz⟩
  · simp [Value.cells] at hcs
    obtain ⟨rfl, rfl, rfl⟩ := hcs
    exact ⟨[], rfl, by omega, .inl rfl, by simp⟩
  · simp [Value.cells] at hcs
    obtain ⟨rfl, rfl, rfl⟩ := hcs
    unfold maxLen at hm
    have hzl : len ≤ zs.length := by rw [hz]; split <;> omega
    have hin : ∀ (i : Nat) z, zs[i]? = some z → 0 ≤ z ∧ z ≤ 18446744073709551615 := by
      intro i z hi
      have := hwz z (List.mem_of_getElem? hi)
      simpa [Lit.wf, IntKind.min, IntKind.max, IntKind.signed, IntKind.bits] using this
    refine ⟨(zs.take len).map fun n => n.toNat, by simp; omega, by omega, ?_, ?_⟩
    · by_cases h0 : len = 0
      · exact .inl (by simp [h0])
      · obtain ⟨b, o, spot⟩ := x
        have h1 := hcell 0 (by omega)
        have hspot : spot = none := by simpa [Addr.add] using World.cell?_spot h1
        subst hspot
        have hb : b < W.heap.size := by
          have := block_lt_of_cell h1
          rwa [show (Addr.add ⟨b, o, none⟩ 0).block = b by simp [Addr.add]] at this
        refine .inr ⟨b, o, rfl, hb, fun j y hy => ?_⟩
        rw [List.getElem?_map] at hy
        cases hz2 : (zs.take len)[j]? with
        | none => rw [hz2] at hy; cases hy
        | some z =>
          rw [hz2] at hy
          simp only [Option.map_some, Option.some.injEq] at hy
          subst hy
          rw [List.getElem?_take] at hz2
          split at hz2
          · next hj =>
            obtain ⟨hr0, hr1⟩ := hin j z hz2
            have hjl : j < zs.length := (List.getElem?_eq_some_iff.1 hz2).1
            have h2 := hcell j hjl
            rw [show (⟨b, o, none⟩ : Addr).add j = ⟨b, o + j, none⟩ by unfold Addr.add; split <;> simp_all] at h2
            have e : zs.getD j 0 = z := by rw [List.getD_eq_getElem?_getD, hz2]; rfl
            rw [h2, e]
            unfold uv
            congr 2; omega
          · cases hz2
    · intro x hx
      obtain ⟨z, hz3, rfl⟩ := List.mem_map.1 hx
      obtain ⟨i, hi⟩ := List.mem_iff_getElem?.1 (List.mem_of_mem_take hz3)
      have := hin i z hi
      omega
end Go.Proofs.YtmocmkfpblakbaaGreatDoor
