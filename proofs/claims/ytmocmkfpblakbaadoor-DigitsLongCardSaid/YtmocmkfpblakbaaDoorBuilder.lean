/- The walks of the library's Builder that writes a text. Condition: Go's own limit. -/
import Derived.Test.YtmocmkfpblakbaaDoorShelf
import Derived.Test.YtmocmkfpblakbaaDoorRow
import Derived.Test.YtmocmkfpblakbaaDoorRefA
import Derived.WalkSmall
import Derived.Lib.AppendIntMem
import Derived.Lib.Builder
import Derived.Lib.AppendStr
import Derived.Lib.UnsafeStr
import Derived.Laws.Externs
namespace Go.Proofs.YtmocmkfpblakbaaDoor
open Go.RowKit

theorem size_builder : (Tryd.prog.info? 82).map (·.size) = some 2 := by kernel_rfl
theorem lies_builder : liesAt Tryd.prog Tryd.prog.depth 82 (2 / Tryd.prog.cellsOf 82) 0 82 1 = true := by kernel_rfl
abbrev BuildAt (B b : Nat) (p : Value) (l : List UInt8) (w : World) : Prop := Lib.BuilderAt 82 5 B b p (Lib.byteCells l) w

set_option maxHeartbeats 1000000 in
set_option maxRecDepth 100000 in
theorem copy_used (b : Nat) (w : World) (h0 : w.cell? ⟨b, 0, none⟩ = some (.pointer (some ⟨b, 0, none⟩))) :
    Calls Tryd.prog 62 #[.pointer (some ⟨b, 0, none⟩)] w fun e w' => e = .returned (.tuple #[]) ∧ w = w' := by
  obtain ⟨j, hj, _⟩ := Option.map_eq_some_iff.1 size_builder
  go_enter Tryd.func62, Tryd.ntmps62
  go_wp2_with fail
  rw [Lib.run_neq_ptr_same w _ Tryd.underlying80 hj]
  go_wp2_with fail
  go_end0
  exact ⟨rfl, rfl⟩
set_option maxHeartbeats 1000000 in
set_option maxRecDepth 100000 in
theorem copy_fresh (b : Nat) (w : World) (h0 : w.cell? ⟨b, 0, none⟩ = some (.pointer none)) (hsh : w.shape? b = some (82, 2)) (hfz : w.frozen? ⟨b, 0, none⟩ = false) :
    Calls Tryd.prog 62 #[.pointer (some ⟨b, 0, none⟩)] w fun e w' => e = .returned (.tuple #[]) ∧ w' = w.setCell ⟨b, 0, none⟩ (.pointer (some ⟨b, 0, none⟩)) := by
  obtain ⟨j, hj, hjs⟩ := Option.map_eq_some_iff.1 size_builder
  go_enter Tryd.func62, Tryd.ntmps62
  go_wp2_with fail
  rw [Lib.run_to_unsafe w ⟨b, 0, none⟩ Tryd.underlying80 Tryd.underlying121 hj (by rw [hjs]; decide) hsh (Nat.zero_lt_succ 1)]
  simp only [Result.andThen]
  rw [Oper.upon_value]
  go_wp2_with fail
  rw [run_callFunc_extern Tryd.func84 (by kernel_rfl) (by kernel_rfl) (by kernel_rfl) (e := Extern.AbiNoEscape.same) (by kernel_rfl)]
  rw [Lib.run_noEscape]
  simp only [Result.andThen]
  rw [Oper.upon_value]
  go_wp2_with fail
  rw [Lib.run_from_unsafe w ⟨b, 0, none⟩ Tryd.underlying121 Tryd.underlying80 hj hsh lies_builder]
  simp only [Result.andThen]
  rw [Oper.upon_value]
  go_wp2_with fail
  go_end0
  exact ⟨rfl, rfl⟩
theorem copy_any (B b : Nat) (l : List UInt8) (w : World) (h : Lib.IsBuilder 82 5 B b (Lib.byteCells l) w) :
    Calls Tryd.prog 62 #[.pointer (some ⟨b, 0, none⟩)] w fun e w' => e = .returned (.tuple #[]) ∧ BuildAt B b (.pointer (some ⟨b, 0, none⟩)) l w' ∧ Below B w w' ∧ w'.heap.size = w.heap.size := by
  rcases h with h | h
  · refine (copy_fresh b w h.cell0 h.shape h.frozen0).mono ?_
    rintro e w' ⟨rfl, rfl⟩
    exact ⟨rfl, h.used _, (Below.refl B w).setCell (p := ⟨b, 0, none⟩) h.1 _, by simp⟩
  · refine (copy_used b w h.cell0).mono ?_
    rintro e w' ⟨rfl, rfl⟩
    exact ⟨rfl, h, Below.refl B _, rfl⟩
theorem byteCells_app (a b : List UInt8) : Lib.byteCells (a ++ b) = Lib.byteCells a ++ Lib.byteCells b := by simp [Lib.byteCells]

set_option maxHeartbeats 2000000 in
set_option maxRecDepth 100000 in
theorem write_any (B b : Nat) (l t : List UInt8) (w : World) (h : Lib.IsBuilder 82 5 B b (Lib.byteCells l) w) (hlen : l.length + t.length ≤ 140737488355328) (hBw : B ≤ w.heap.size) :
    Calls Tryd.prog 43 #[.pointer (some ⟨b, 0, none⟩), sv t] w fun e w' => e = .returned (.tuple #[.int .i64 (t.length : Int), .nilIface]) ∧ BuildAt B b (.pointer (some ⟨b, 0, none⟩)) (l ++ t) w' ∧ Below B w w' := by
  obtain ⟨i0, hi, hz0, hz1, hz2⟩ := info_parts info_u8
  have HI := Lib.hid h
  clear h
  go_enter Tryd.func43, Tryd.ntmps43
  go_wp2_with (refine (copy_any B b l _ HI.out).mono ?_)
  rintro e w1 ⟨rfl, h1, hb1, hsz⟩
  obtain ⟨hB, v, hbk, hown, hne⟩ := h1
  have hsz1 : B ≤ w1.heap.size := by omega
  have HSZ := Lib.hid hsz
  clear hsz
  have c0 : w1.cell? ⟨b, 0, none⟩ = some (.pointer (some ⟨b, 0, none⟩)) := by rw [Lib.cell_of_heap hbk]; rfl
  have c1 : w1.cell? ⟨b, 1, none⟩ = some v := by rw [Lib.cell_of_heap hbk]; rfl
  have hlt : b < w1.heap.size := (Array.getElem?_eq_some_iff.1 hbk).1
  have HBK := Lib.hid hbk
  have hcl : (Lib.byteCells l).length + (⟨t.toArray⟩ : ByteArray).size ≤ 140737488355328 := by rw [Lib.byteCells_length]; exact hlen
  have hcm : (Lib.byteCells l).length + (⟨t.toArray⟩ : ByteArray).size ≤ maxLen := by unfold maxLen; omega
  clear hbk
  go_wp2_with (at_builtin; refine Lib.wpList_append_own_string _ rfl _ _ 25 9 rfl B 5 i0 Tryd.underlying25 Tryd.underlying9 hi hz0 hz1 hz2 _ _ _ rfl hown ⟨t.toArray⟩ rfl hcm hcl hsz1 ?_)
  intro v' w2 hown' hgrow _
  have hb2 : w2.heap[b]? = some (.cells #[.pointer (some ⟨b, 0, none⟩), v] 82 (0, 0)) := by
    rw [hgrow.block b hlt (fun e => hne e.symm)]
    exact HBK.out
  have d0 : w2.cell? ⟨b, 0, none⟩ = some (.pointer (some ⟨b, 0, none⟩)) := by rw [Lib.cell_of_heap hb2]; rfl
  have d1 : w2.cell? ⟨b, 1, none⟩ = some v := by rw [Lib.cell_of_heap hb2]; rfl
  have f1 : w2.frozen? ⟨b, 1, none⟩ = false := Lib.frozen_of_heap hb2 1
  obtain ⟨ao, n', cap, rfl⟩ : ∃ ao n' cap, v' = .slice ao n' cap := by
    rcases hown'.2 with ⟨hv, _⟩ | ⟨g, cap, cur, hv, _⟩
    · exact ⟨_, _, _, hv⟩
    · exact ⟨_, _, _, hv⟩
  have HE := Lib.hid (And.intro hb2 (And.intro hown' (And.intro hgrow hb1)))
  clear hb2 hown' hgrow hb1 hcl hcm
  go_wp2_with fail
  go_ret2
  obtain ⟨hb2, hown', hgrow, hb1⟩ := HE.out
  refine ⟨rfl, ?_, ?_⟩
  · refine Lib.BuilderAt.put (T := 82) (e := 5) hB hb2 (bs' := Lib.byteCells (l ++ t)) ?_ (by decide)
    rw [byteCells_app]
    have e1 : Lib.strCells ⟨t.toArray⟩ = Lib.byteCells t := rfl
    rw [← e1, List.length_append, Lib.strCells_length]
    exact hown'
  · exact (hb1.grown hgrow (by omega) (fun k hk => (hown.lt k hk).1)).setCell (p := ⟨b, 1, none⟩) hB _

theorem BuildAt.call {B b : Nat} {p : Value} {l : List UInt8} {w w' : World} (h : BuildAt B b p l w) (hb : Below w.heap.size w w') : BuildAt B b p l w' := by
  obtain ⟨hB, v, hbk, hown, hne⟩ := h
  refine ⟨hB, v, (hb.block _ (Array.getElem?_eq_some_iff.1 hbk).1).trans hbk, ⟨hown.1, ?_⟩, hne⟩
  rcases hown.2 with h2 | ⟨g, cap, cur, hv, hg, hh, hr⟩
  · exact .inl h2
  · exact .inr ⟨g, cap, cur, hv, hg, (hb.block g (Array.getElem?_eq_some_iff.1 hh).1).trans hh, hr⟩
/-- a builder of the call's own -/
def Build (B b : Nat) (l : List UInt8) (w : World) : Prop := Lib.IsBuilder 82 5 B b (Lib.byteCells l) w
theorem Build.call {B b : Nat} {l : List UInt8} {w w' : World} (h : Build B b l w) (hb : Below w.heap.size w w') : Build B b l w' := by
  rcases h with h | h
  · exact .inl (BuildAt.call h hb)
  · exact .inr (BuildAt.call h hb)
theorem Build.new (B : Nat) (w : World) (hB : B ≤ w.heap.size) : Build B w.heap.size [] (w.alloc (.cells #[.pointer none, .slice none 0 0] 82)) :=
  .inl ⟨hB, _, heap_alloc_new _ _, ⟨rfl, .inl ⟨rfl, rfl⟩⟩, by simp [Value.ownBlock]⟩
end Go.Proofs.YtmocmkfpblakbaaDoor
