/- Own law: append(s, make([]byte, k)...) where s is of the call's own: with room (in place) or without. Condition: the lengths are small. -/
import Derived.Test.YtopnhplacdbkdaaLogB
namespace Go.Proofs.Ytopnhplacdbkdaa
open Go.RowKit

theorem zeroCells_u8 (k : Nat) : (Builtin.zeroCells (Value.cells (.int .u8 0)) k).toList = (List.replicate k (0 : UInt8)).map bv := by
  apply List.ext_getElem?
  intro j
  simp only [Builtin.zeroCells, Value.cells, Array.toList_map, Array.toList_range, List.getElem?_map, List.getElem?_replicate]
  by_cases hj : j < k
  · rw [List.getElem?_range (by simpa using hj), if_pos hj]
    simp [bv, Nat.mod_one]
  · rw [List.getElem?_eq_none (by simp; omega), if_neg hj]
    rfl

set_option maxRecDepth 100000 in
theorem run_append_zeros_b (w : World) (ty : TypeId) (B : Nat) (hB : B ≤ w.heap.size) (a : Option Addr) (n c : Nat) (bs : List UInt8) (hown : Own w B a n c bs) (k : Nat) (h0 : 0 < k) (hsum : n + k ≤ 140737488355328) :
    ∃ a' c' w', (Builtin.append_ #[23, 3] ty #[.slice a n c, .int .i64 (k : Int)]).run Try.prog w = .ok (.slice a' (n + k) c') w' ∧ Own w' B a' (n + k) c' (bs ++ List.replicate k 0) ∧ w.grownBy w' (a.map (·.block)) := by
  obtain ⟨i0, hi, hz0, hz1, hz2⟩ := info_parts info_u8
  have hlenb := hown.len
  have grow : c < n + k → (hold : (Builtin.firstCells i0.size n (.slice a n c)).run Try.prog w.drew = .ok (bs.map bv).toArray w.drew) →
      ∃ a' c' w', (Builtin.append_ #[23, 3] ty #[.slice a n c, .int .i64 (k : Int)]).run Try.prog w = .ok (.slice a' (n + k) c') w' ∧ Own w' B a' (n + k) c' (bs ++ List.replicate k 0) ∧ w.grownBy w' (a.map (·.block)) := by
    intro hc hold
    have hr := Lib.run_append_grow_zeros (P := Try.prog) w 23 3 ty 5 i0 (.int .u8 0) .i64 .i64 Try.underlying23 Try.underlying3 hi hz0 a n c (bs.map bv)
      (by simpa using hold) k h0 (by omega) hc (by omega) (by rw [hz2]; omega) (by rw [hz2]; exact growslice_fits (by omega) (by omega))
    have hc1 := grownCap_ge w (n + k) c 5
    have hc2 := grownCap_le_maxLen w (n + k) c 5 (by unfold maxLen; omega)
    refine ⟨_, _, _, hr, ⟨by simp [hlenb], .inr ⟨w.heap.size, _, _, rfl, hB, heap_alloc_new w.drew _, hc1, hc2, ?_, ?_⟩⟩, ⟨rfl, rfl, rfl, by simp, fun j hj _ => heap_alloc_old w.drew _ hj⟩⟩
    · simp [size_zeroCells, Value.cells, hlenb]; omega
    · simp only [Array.toList_append, zeroCells_u8]
      rw [← List.map_append]
      exact List.take_left' (by simp [hlenb])
  rcases hown.form with ⟨rfl, rfl, rfl, rfl⟩ | ⟨g, cur, rfl, hg, hgs, hh, hnc, hcm, hcs, ht⟩
  · exact grow (by omega) (by rw [hz1]; simp [Builtin.firstCells])
  · by_cases hc : n + k ≤ c
    · have hfit : n + 0 + ((List.replicate k (0 : UInt8)).map bv).length ≤ cur.size := by simp; omega
      have hst := run_storeCells_at Try.prog g n 5 ((List.replicate k (0 : UInt8)).map bv) 0 cur w hh hfit (bv_one _)
      simp only [Nat.add_zero] at hst
      obtain ⟨R, hR⟩ : ∃ R, R = (cur.toList.take n ++ (List.replicate k (0 : UInt8)).map bv ++ cur.toList.drop (n + ((List.replicate k (0 : UInt8)).map bv).length)).toArray := ⟨_, rfl⟩
      rw [← hR] at hst
      have hw : IntKind.i64.wrap (k : Int) = k := by rw [IntKind.wrap_i64]; omega
      have hneg : ¬ ((k : Int) < 0) := by omega
      have h48i : ¬ (281474976710656 < (k : Int) * (i0.bytes : Int)) := by rw [hz2]; omega
      have hk0 : ¬ (k = 0) := by omega
      refine ⟨some ⟨g, 0, none⟩, c, w.setRow g R, ?_, ⟨by simp [hlenb], .inr ⟨g, c, R, rfl, hg, setRow_heap w g cur _ 5 _ hh, hc, hcm, ?_, ?_⟩⟩, ⟨rfl, rfl, rfl, by simp, fun j _ hj => setRow_other w g j _ (fun e => hj (by simp [e]))⟩⟩
      · simp [Builtin.append_, run_underlying Try.underlying23, run_underlying Try.underlying3, sizeOf, typeInfo, zeroValue, hi, hz0, hz1, asInt, asIntOf, hw, hneg, h48i, hk0, hc, zeroCells_u8, Addr.add_lit]
        rw [List.map_replicate] at hst
        rw [hst]
        rfl
      · rw [hR]; simp; omega
      · rw [hR]
        have e : cur.toList.take n ++ (List.replicate k (0 : UInt8)).map bv = (bs ++ List.replicate k 0).map bv := by rw [ht, List.map_append]
        simp only [e]
        exact List.take_left' (by simp [hlenb])
    · refine grow (by omega) ?_
      rw [hz1]
      refine run_firstCells_some (P := Try.prog) w.drew 1 n ⟨g, 0, none⟩ n c (bs.map bv) (by simp [hlenb]) ?_
      intro j u hu
      rw [List.getElem?_map] at hu
      cases hx : bs[j]? with
      | none => rw [hx] at hu; cases hu
      | some x =>
        rw [hx] at hu
        simp only [Option.map_some, Option.some.injEq] at hu
        subst hu
        have := hown.cell hx
        rw [Addr.add_lit]
        rw [Nat.zero_add]
        exact this
end Go.Proofs.Ytopnhplacdbkdaa
