/- How the arguments of a law are opened: integers as natural numbers, a slice of bytes as a list of bytes. Plain lemmas, no condition. -/
import Derived.Test.YtopnhplacdbkdaaGreatProg
import Derived.Test.YtopnhplacdbkdaaGreatBytes
import Derived.WalkKit
import Derived.ProofKit
import Derived.OpenShut
import Derived.Deep.Matrix
namespace Go.Proofs.YtopnhplacdbkdaaGreat
open Go.ChangeShapes Go.WideShapes Go.ChangeAt Go.RowKit

theorem nat_of_wf_u8 {a : Int} (h : (Lit.int .u8 a).wf = true) : ∃ n : Nat, a = (n : Int) ∧ n < 256 := by
  have hr : 0 ≤ a ∧ a ≤ 255 := by simpa [Lit.wf, IntKind.min, IntKind.max, IntKind.signed, IntKind.bits] using h
  exact ⟨a.toNat, by omega, by omega⟩
theorem nat_of_wf_u16 {a : Int} (h : (Lit.int .u16 a).wf = true) : ∃ n : Nat, a = (n : Int) ∧ n < 65536 := by
  have hr : 0 ≤ a ∧ a ≤ 65535 := by simpa [Lit.wf, IntKind.min, IntKind.max, IntKind.signed, IntKind.bits] using h
  exact ⟨a.toNat, by omega, by omega⟩
theorem nat_of_wf_u32 {a : Int} (h : (Lit.int .u32 a).wf = true) : ∃ n : Nat, a = (n : Int) ∧ n < 4294967296 := by
  have hr : 0 ≤ a ∧ a ≤ 4294967295 := by simpa [Lit.wf, IntKind.min, IntKind.max, IntKind.signed, IntKind.bits] using h
  exact ⟨a.toNat, by omega, by omega⟩
theorem nat_of_wf_u64 {a : Int} (h : (Lit.int .u64 a).wf = true) : ∃ n : Nat, a = (n : Int) ∧ n < 18446744073709551616 := by
  have hr : 0 ≤ a ∧ a ≤ 18446744073709551615 := by simpa [Lit.wf, IntKind.min, IntKind.max, IntKind.signed, IntKind.bits] using h
  exact ⟨a.toNat, by omega, by omega⟩
theorem i64_of_wf {a : Int} (h : (Lit.int .i64 a).wf = true) : -9223372036854775808 ≤ a ∧ a ≤ 9223372036854775807 := by
  simpa [Lit.wf, IntKind.min, IntKind.max, IntKind.signed, IntKind.bits] using h

theorem open_bytes {H : Type} {enc : TypeId × Value → H} {W : World} {sp : Nat → Bool} {hd : Bool} {a : Option Addr} {len cap : Nat} {d : DataW H} {p : List MemPlace}
    (h : DataW.Trod enc Tryz.prog W 0 sp hd 30 (.slice a len cap) d p) :
    ∃ bs : List UInt8, bs.length = len ∧ len ≤ 9223372036854775807 ∧ Rd W W.heap.size a bs ∧ len ≤ cap ∧ cap ≤ 9223372036854775807 := by
  obtain ⟨fuel, hf⟩ := h
  rcases open_ints Tryz.underlying30 Tryz.underlying5 (by kernel_rfl) hf with ⟨hcs, _⟩ | ⟨x, l, c, zs, hcs, _, hl, hm, hz, _, hcell, hwz⟩
  · simp [Value.cells] at hcs
    obtain ⟨rfl, rfl, rfl⟩ := hcs
    exact ⟨[], rfl, by omega, .inl rfl, by omega, by omega⟩
  · simp [Value.cells] at hcs
    obtain ⟨rfl, rfl, rfl⟩ := hcs
    unfold maxLen at hm
    have hzl : len ≤ zs.length := by rw [hz]; split <;> omega
    refine ⟨(zs.take len).map fun n => UInt8.ofNat n.toNat, by simp; omega, by omega, ?_, by omega, by omega⟩
    by_cases h0 : len = 0
    · exact .inl (by simp [h0])
    · have hb : x.block < W.heap.size := by
        have := block_lt_of_cell (hcell 0 (by omega))
        rwa [show (x.add 0).block = x.block by simp [Addr.add]] at this
      exact Rd.of_ints hb (by omega) hcell hwz

theorem open_bytess {H : Type} {enc : TypeId × Value → H} {W : World} {hd : Bool} {a : Option Addr} {len cap : Nat} {d : DataW H} {p : List MemPlace}
    (h : DataW.Trod enc Tryz.prog W 0 (fun _ => true) hd 94 (.slice a len cap) d p) :
    ∃ ps : List Part, ps.length = len ∧ len ≤ 9223372036854775807 ∧ RdP W W.heap.size a ps ∧ ∀ p ∈ ps, p.n ≤ 9223372036854775807 ∧ p.n ≤ p.c ∧ p.c ≤ 9223372036854775807 := by
  obtain ⟨fuel, hf⟩ := h
  rcases Go.Deep.open_int_rows Tryz.underlying94 Tryz.underlying30 Tryz.underlying5 (by kernel_rfl) (by kernel_rfl) hf with ⟨hcs, _⟩ | ⟨x, l, c, A, L, C, Z, hcs, _, hl, hm, _, hr⟩
  · simp [Value.cells] at hcs
    obtain ⟨rfl, rfl, rfl⟩ := hcs
    exact ⟨[], rfl, by omega, .inl rfl, by simp⟩
  · simp [Value.cells] at hcs
    obtain ⟨rfl, rfl, rfl⟩ := hcs
    unfold maxLen at hm
    refine ⟨(List.range len).map fun r => ⟨A r, L r, C r, ((Z r).take (L r)).map fun n => UInt8.ofNat n.toNat⟩, by simp, by omega, ?_, fun p hp => ?_⟩
    rotate_left
    · obtain ⟨j, hj, rfl⟩ := List.mem_map.1 hp
      have hj' := List.mem_range.1 hj
      obtain ⟨_, g2, g3, _⟩ := hr j (by omega)
      exact ⟨Nat.le_trans g2 g3, g2, g3⟩
    by_cases h0 : len = 0
    · exact .inl (by simp [h0])
    · obtain ⟨b, o, spot⟩ := x
      have h1 := (hr 0 (by omega)).1
      have hspot : spot = none := by simpa [Addr.add] using World.cell?_spot h1
      subst hspot
      have hb : b < W.heap.size := by
        have := block_lt_of_cell h1
        rwa [show (Addr.add ⟨b, o, none⟩ 0).block = b by simp [Addr.add]] at this
      refine .inr ⟨b, o, rfl, hb, fun j p hp => ?_⟩
      rw [List.getElem?_map] at hp
      by_cases hj : j < len
      · rw [List.getElem?_range hj] at hp
        simp only [Option.map_some, Option.some.injEq] at hp
        subst hp
        obtain ⟨g1, g2, g3, g4, g5, g6, g7⟩ := hr j (by omega)
        have e : (⟨b, o, none⟩ : Addr).add j = ⟨b, o + j, none⟩ := by unfold Addr.add; split <;> simp_all
        rw [e] at g1
        refine ⟨g1, by simp; omega, ?_⟩
        show Rd W W.heap.size (A j) _
        by_cases hL : L j = 0
        · exact .inl (by simp [hL])
        · cases hA : A j with
          | none => have := g6 hA; omega
          | some y =>
            have g8 := (g7 y hA).2
            have hy : y.block < W.heap.size := by
              have := block_lt_of_cell (g8 0 (by omega))
              rwa [show (y.add 0).block = y.block by simp [Addr.add]] at this
            exact Rd.of_ints hy (by omega) (fun i hi => g8 i (by omega)) g5
      · rw [List.getElem?_eq_none (by simpa using hj)] at hp
        cases hp
end Go.Proofs.YtopnhplacdbkdaaGreat
