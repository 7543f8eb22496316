/- The walks of the library's Builder that writes a text, and the line of any right act. Condition: Go's own limit. -/
import Derived.Test.YtifdmgloheampaaDoorScriptG
import Derived.Lib.Builder
import Derived.Lib.AppendStr
import Derived.Lib.UnsafeStr
import Derived.Laws.Externs
namespace Go.Proofs.YtifdmgloheampaaDoor
open Go.RowKit DiskM ScriptM

theorem size_builder : (Tryd.prog.info? 56).map (·.size) = some 2 := by kernel_rfl
theorem lies_builder : liesAt Tryd.prog Tryd.prog.depth 56 (2 / Tryd.prog.cellsOf 56) 0 56 1 = true := by kernel_rfl
abbrev BuildAt (B b : Nat) (p : Value) (l : List UInt8) (w : World) : Prop := Lib.BuilderAt 56 5 B b p (Lib.byteCells l) w

set_option maxHeartbeats 1000000 in
set_option maxRecDepth 100000 in
theorem copy_used (b : Nat) (w : World) (h0 : w.cell? ⟨b, 0, none⟩ = some (.pointer (some ⟨b, 0, none⟩))) :
    Calls Tryd.prog 34 #[.pointer (some ⟨b, 0, none⟩)] w fun e w' => e = .returned (.tuple #[]) ∧ w = w' := by
  obtain ⟨j, hj, _⟩ := Option.map_eq_some_iff.1 size_builder
  go_enter Tryd.func34, Tryd.ntmps34
  go_wp2_with fail
  rw [Lib.run_neq_ptr_same w _ Tryd.underlying54 hj]
  go_wp2_with fail
  go_end0
  exact ⟨rfl, rfl⟩
set_option maxHeartbeats 1000000 in
set_option maxRecDepth 100000 in
theorem copy_fresh (b : Nat) (w : World) (h0 : w.cell? ⟨b, 0, none⟩ = some (.pointer none)) (hsh : w.shape? b = some (56, 2)) (hfz : w.frozen? ⟨b, 0, none⟩ = false) :
    Calls Tryd.prog 34 #[.pointer (some ⟨b, 0, none⟩)] w fun e w' => e = .returned (.tuple #[]) ∧ w' = w.setCell ⟨b, 0, none⟩ (.pointer (some ⟨b, 0, none⟩)) := by
  obtain ⟨j, hj, hjs⟩ := Option.map_eq_some_iff.1 size_builder
  go_enter Tryd.func34, Tryd.ntmps34
  go_wp2_with fail
  rw [Lib.run_to_unsafe w ⟨b, 0, none⟩ Tryd.underlying54 Tryd.underlying83 hj (by rw [hjs]; decide) hsh (Nat.zero_lt_succ 1)]
  simp only [Result.andThen]
  rw [Oper.upon_value]
  go_wp2_with fail
  rw [run_callFunc_extern Tryd.func47 (by kernel_rfl) (by kernel_rfl) (by kernel_rfl) (e := Extern.AbiNoEscape.same) (by kernel_rfl)]
  rw [Lib.run_noEscape]
  simp only [Result.andThen]
  rw [Oper.upon_value]
  go_wp2_with fail
  rw [Lib.run_from_unsafe w ⟨b, 0, none⟩ Tryd.underlying83 Tryd.underlying54 hj hsh lies_builder]
  simp only [Result.andThen]
  rw [Oper.upon_value]
  go_wp2_with fail
  go_end0
  exact ⟨rfl, rfl⟩
theorem copy_any (B b : Nat) (l : List UInt8) (w : World) (h : Lib.IsBuilder 56 5 B b (Lib.byteCells l) w) :
    Calls Tryd.prog 34 #[.pointer (some ⟨b, 0, none⟩)] w fun e w' => e = .returned (.tuple #[]) ∧ BuildAt B b (.pointer (some ⟨b, 0, none⟩)) l w' ∧ Below B w w' ∧ w'.heap.size = w.heap.size := by
  rcases h with h | h
  · refine (copy_fresh b w h.cell0 h.shape h.frozen0).mono ?_
    rintro e w' ⟨rfl, rfl⟩
    exact ⟨rfl, h.used _, (Below.refl B w).setCell (p := ⟨b, 0, none⟩) h.1 _, by simp⟩
  · refine (copy_used b w h.cell0).mono ?_
    rintro e w' ⟨rfl, rfl⟩
    exact ⟨rfl, h, Below.refl B _, rfl⟩
theorem byteCells_app (a b : List UInt8) : Lib.byteCells (a ++ b) = Lib.byteCells a ++ Lib.byteCells b := by simp [Lib.byteCells]

set_option maxHeartbeats 2000000 in
set_option maxRecDepth 100000 in
theorem write_any (B b : Nat) (l t : List UInt8) (w : World) (h : Lib.IsBuilder 56 5 B b (Lib.byteCells l) w) (hlen : l.length + t.length ≤ 140737488355328) (hBw : B ≤ w.heap.size) :
    Calls Tryd.prog 25 #[.pointer (some ⟨b, 0, none⟩), sv t] w fun e w' => e = .returned (.tuple #[.int .i64 (t.length : Int), .nilIface]) ∧ BuildAt B b (.pointer (some ⟨b, 0, none⟩)) (l ++ t) w' ∧ Below B w w' := by
  obtain ⟨i0, hi, hz0, hz1, hz2⟩ := info_parts info_u8
  have HI := Lib.hid h
  clear h
  go_enter Tryd.func25, Tryd.ntmps25
  go_wp2_with (refine (copy_any B b l _ HI.out).mono ?_)
  rintro e w1 ⟨rfl, h1, hb1, hsz⟩
  obtain ⟨hB, v, hbk, hown, hne⟩ := h1
  have hsz1 : B ≤ w1.heap.size := by omega
  have HSZ := Lib.hid hsz
  clear hsz
  have c0 : w1.cell? ⟨b, 0, none⟩ = some (.pointer (some ⟨b, 0, none⟩)) := by rw [Lib.cell_of_heap hbk]; rfl
  have c1 : w1.cell? ⟨b, 1, none⟩ = some v := by rw [Lib.cell_of_heap hbk]; rfl
  have hlt : b < w1.heap.size := (Array.getElem?_eq_some_iff.1 hbk).1
  have HBK := Lib.hid hbk
  have hcl : (Lib.byteCells l).length + (⟨t.toArray⟩ : ByteArray).size ≤ 140737488355328 := by rw [Lib.byteCells_length]; exact hlen
  have hcm : (Lib.byteCells l).length + (⟨t.toArray⟩ : ByteArray).size ≤ maxLen := by unfold maxLen; omega
  clear hbk
  go_wp2_with (at_builtin; refine Lib.wpList_append_own_string _ rfl _ _ 27 9 rfl B 5 i0 Tryd.underlying27 Tryd.underlying9 hi hz0 hz1 hz2 _ _ _ rfl hown ⟨t.toArray⟩ rfl hcm hcl hsz1 ?_)
  intro v' w2 hown' hgrow _
  have hb2 : w2.heap[b]? = some (.cells #[.pointer (some ⟨b, 0, none⟩), v] 56 (0, 0)) := by
    rw [hgrow.block b hlt (fun e => hne e.symm)]
    exact HBK.out
  have d0 : w2.cell? ⟨b, 0, none⟩ = some (.pointer (some ⟨b, 0, none⟩)) := by rw [Lib.cell_of_heap hb2]; rfl
  have d1 : w2.cell? ⟨b, 1, none⟩ = some v := by rw [Lib.cell_of_heap hb2]; rfl
  have f1 : w2.frozen? ⟨b, 1, none⟩ = false := Lib.frozen_of_heap hb2 1
  obtain ⟨ao, n', cap, rfl⟩ : ∃ ao n' cap, v' = .slice ao n' cap := by
    rcases hown'.2 with ⟨hv, _⟩ | ⟨g, cap, cur, hv, _⟩
    · exact ⟨_, _, _, hv⟩
    · exact ⟨_, _, _, hv⟩
  have HE := Lib.hid (And.intro hb2 (And.intro hown' (And.intro hgrow hb1)))
  clear hb2 hown' hgrow hb1 hcl hcm
  go_wp2_with fail
  go_ret2
  obtain ⟨hb2, hown', hgrow, hb1⟩ := HE.out
  refine ⟨rfl, ?_, ?_⟩
  · refine Lib.BuilderAt.put (T := 56) (e := 5) hB hb2 (bs' := Lib.byteCells (l ++ t)) ?_ (by decide)
    rw [byteCells_app]
    have e1 : Lib.strCells ⟨t.toArray⟩ = Lib.byteCells t := rfl
    rw [← e1, List.length_append, Lib.strCells_length]
    exact hown'
  · exact (hb1.grown hgrow (by omega) (fun k hk => (hown.lt k hk).1)).setCell (p := ⟨b, 1, none⟩) hB _

/-! ### a line's length; the line of any right act -/
theorem glue_len : ∀ xs : List (List UInt8), (∀ x ∈ xs, x.length ≤ 16) → (glue xs).length ≤ 17 * xs.length
  | [], _ => by simp [glue]
  | [x], h => by have := h x (by simp); simp only [glue, List.length_singleton]; omega
  | x :: y :: r, h => by
    have h1 := h x (by simp)
    have h2 := glue_len (y :: r) fun z hz => h z (by simp at hz ⊢; right; exact hz)
    show (x ++ 32 :: glue (y :: r)).length ≤ _
    simp only [List.length_append, List.length_cons] at h2 ⊢
    omega
theorem word_len (k : Int) : (word k).length ≤ 16 := by
  unfold word
  repeat (split; · decide)
  decide
theorem right_parts {a : ScriptM.Act} (h : right a = true) : a.keep.length ≤ 8 ∧ (a.kind = 1 ∨ a.kind = 2 ∨ a.kind = 3 ∨ a.kind = 7 → 0 ≤ a.n ∧ a.n ≤ 999999) ∧ (a.kind = 5 → 0 ≤ a.n ∧ a.n ≤ 999999) ∧ (a.kind = 8 → 0 ≤ a.n ∧ a.n ≤ 999999 ∧ a.name.length ≤ 16) ∧ (a.kind ≠ 6 → a.keep = []) := by
  unfold right at h
  have hn : ∀ l : List UInt8, named l = true → l.length ≤ 16 := by
    intro l hl
    unfold named at hl
    simp only [Bool.and_eq_true, decide_eq_true_eq] at hl
    omega
  split at h
  · rename_i hk
    simp only [Bool.and_eq_true, inN, decide_eq_true_eq] at h
    refine ⟨by rw [h.1.1.2]; simp, fun _ => h.1.1.1.1, fun e => by omega, fun e => by omega, fun _ => h.1.1.2⟩
  · split at h
    · rename_i hk
      simp only [Bool.and_eq_true, decide_eq_true_eq] at h
      refine ⟨by rw [h.1.1.2]; simp, fun e => by omega, fun e => by omega, fun e => by omega, fun _ => h.1.1.2⟩
    · split at h
      · rename_i hk
        simp only [Bool.and_eq_true, inN, decide_eq_true_eq] at h
        refine ⟨by rw [h.1.1.2]; simp, fun e => by omega, fun _ => h.1.1.1, fun e => by omega, fun _ => h.1.1.2⟩
      · split at h
        · rename_i hk
          simp only [Bool.and_eq_true, decide_eq_true_eq] at h
          refine ⟨h.2, fun e => by omega, fun e => by omega, fun e => by omega, fun e => absurd hk e⟩
        · split at h
          · rename_i hk
            simp only [Bool.and_eq_true, inN, decide_eq_true_eq] at h
            refine ⟨by rw [h.1.1.2]; simp, fun e => by omega, fun e => by omega, fun _ => ⟨h.1.1.1.1.1, h.1.1.1.1.2, hn _ h.1.2⟩, fun _ => h.1.1.2⟩
          · cases h
theorem shown_len {a : ScriptM.Act} (h : right a = true) (hm : a.mask < 4294967296) : (shown a).length ≤ 1000 := by
  obtain ⟨r1, r2, r3, r4, r5⟩ := right_parts h
  have hk := right_kind h
  have hlen : (fields a).length ≤ 13 := by
    simp only [fields, List.cons_append, List.length_cons, List.length_append, List.length_map]
    have : ∀ (c : Prop) [Decidable c] (x : List UInt8), (if c then [x] else []).length ≤ 1 := by intro c _ x; split <;> simp
    have h1 := this (a.kind = 8) a.name
    have h2 : (if hasN a.kind then [dec a.n.toNat] else []).length ≤ 1 := by split <;> simp
    have h3 := this (a.kind = 5) (if a.done then doneW else lostW)
    have h4 := this (a.kind = 8) (hexD a.mask)
    omega
  have hall : ∀ x ∈ fields a, x.length ≤ 16 := by
    intro x hx
    simp only [fields, List.cons_append, List.mem_cons, List.mem_append, List.mem_map] at hx
    rcases hx with rfl | (((hx | hx) | hx) | hx) | ⟨k, _, rfl⟩
    · exact word_len _
    · split at hx
      · rename_i e
        rw [List.mem_singleton] at hx; subst hx; exact (r4 e).2.2
      · cases hx
    · split at hx
      · rename_i e
        rw [List.mem_singleton] at hx; subst hx
        have hb : 0 ≤ a.n ∧ a.n ≤ 999999 := by
          have e' : a.kind = 1 ∨ a.kind = 2 ∨ a.kind = 3 ∨ a.kind = 7 ∨ a.kind = 5 ∨ a.kind = 8 := by simpa [hasN, or_assoc] using e
          rcases e' with e | e | e | e | e | e
          · exact r2 (.inl e)
          · exact r2 (.inr (.inl e))
          · exact r2 (.inr (.inr (.inl e)))
          · exact r2 (.inr (.inr (.inr e)))
          · exact r3 e
          · exact ⟨(r4 e).1, (r4 e).2.1⟩
        have := dec_len 6 a.n.toNat (by omega) (by omega)
        omega
      · cases hx
    · split at hx
      · rw [List.mem_singleton] at hx; subst hx
        split <;> decide
      · cases hx
    · split at hx
      · rw [List.mem_singleton] at hx; subst hx
        have := hexD_len 8 a.mask (by omega) (by omega)
        omega
      · cases hx
    · have := k.toNat_lt
      have := dec_len 3 k.toNat (by omega) (by omega)
      omega
  have := glue_len (fields a) hall
  show (glue (fields a)).length ≤ _
  omega
theorem sline_any (x : ActC) (keep : List UInt8) (w : World) (hr : right (x.abs keep) = true) (hm : x.mask < 4294967296) (hkl : keep.length = x.kn) (hrd : Rd w w.heap.size x.ka keep) (hl : Laid w) :
    Calls Tryd.prog 26 #[.agg x.cells] w fun e w' => e = .returned (sv (ScriptM.line (x.abs keep))) ∧ Below w.heap.size w w' := by
  have hlen := Nat.le_trans (shown_len hr hm) (by decide : 1000 ≤ 1000000)
  have hk : 1 ≤ x.kind ∧ x.kind ≤ 8 := right_kind hr
  obtain ⟨r1, r2, r3, r4, r5⟩ := right_parts hr
  have r1 : keep.length ≤ 8 := r1
  by_cases h1 : x.kind = 1 ∨ x.kind = 2 ∨ x.kind = 3 ∨ x.kind = 7
  · exact line_n x keep w h1 (r2 h1).1 (r2 h1).2 hkl r1 hrd hlen hl
  by_cases h4 : x.kind = 4
  · exact line_open x keep w h4 hkl r1 hrd hlen hl
  by_cases h5 : x.kind = 5
  · cases hd : x.done with
    | true => exact line_arm x keep w h5 hd (r3 h5).1 (r3 h5).2 hkl r1 hrd hlen hl
    | false => exact line_lost x keep w h5 hd (r3 h5).1 (r3 h5).2 hkl r1 hrd hlen hl
  by_cases h6 : x.kind = 6
  · exact line_crash x keep w h6 hkl r1 hrd hlen hl
  have h8 : x.kind = 8 := by omega
  exact line_flip x keep w h8 (r4 h8).1 (r4 h8).2.1 hm hkl r1 hrd hlen hl
end Go.Proofs.YtifdmgloheampaaDoor
