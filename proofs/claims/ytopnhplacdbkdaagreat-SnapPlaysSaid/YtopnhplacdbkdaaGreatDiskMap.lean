/- A map of files by name: look-ups, stores, deletes, at this program. Plain lemmas on worlds, no condition. -/
import Derived.Test.YtopnhplacdbkdaaGreatDiskW
namespace Go.Proofs.YtopnhplacdbkdaaGreat
open Go.RowKit Go.Maps DiskM Go.ChangeShapes Go.WideShapes

def tok (v : Value) : DataW Value := .held v
def heldR (v : Value) : Option (DataW Value × List MemPlace) := some (.held v, [])
def entry (p : Nm × Value) : Lit × DataW Value := (.string p.1, .held p.2)
theorem entry_inj {p q : Nm × Value} (h : entry p = entry q) : p = q := by
  unfold entry at h
  injection h with h1 h2
  injection h1 with h1
  injection h2 with h2
  obtain ⟨a, b⟩ := p; obtain ⟨c, d⟩ := q
  simp_all
/-- block b is a map of just these entries -/
def MapAt (w : World) (b : Nat) (es : List (Nm × Value)) : Prop := w.ownsMap Tryz.prog 9 heldR b es.length (.map (es.map entry))

theorem keyS : Keyed Tryz.prog 9 := string_keyed Tryz.underlying9
theorem zeroF (w : World) : (zeroValue 70).run Tryz.prog w = .ok (.agg #[.slice none 0 0, .int .i64 0]) w := by kernel_rfl
theorem underM : Tryz.prog.underlying 44 = some (.map 9 70) := Tryz.underlying44
theorem keyOf_s (s : ByteArray) (h : s.size ≤ maxLen) : keyOf Tryz.prog 9 (.string s) = some (.string s.data.toList) := Go.WideMaps.keyOf_string_mk Tryz.underlying9 h

section
variable {w w' : World} {b : Nat} {es : List (Nm × Value)}
theorem ins_entry (x : Nm × Value) (l : List (Nm × Value)) : (DiskM.ins x l).map entry = DataW.insert (entry x) (l.map entry) := by
  induction l with
  | nil => rfl
  | cons y r ih =>
    simp only [DiskM.ins, List.map_cons, DataW.insert]
    by_cases h : lt x.1 y.1 = true
    · rw [if_pos h, if_pos (by exact h)]; rfl
    · rw [if_neg h, if_neg (by exact h), List.map_cons, ih]
theorem del_entry (k : Nm) (l : List (Nm × Value)) : (DiskM.del k l).map entry = (l.map entry).filter fun p => !p.1.sameKey (.string k) := by
  unfold DiskM.del
  rw [List.filter_map]
  congr 1
theorem put_entry (k : Nm) (v : Value) (l : List (Nm × Value)) : DataW.map ((DiskM.put k v l).map entry) = (DataW.map (l.map entry)).put (.string k) (.held v) := by
  unfold DiskM.put
  rw [ins_entry, del_entry]; rfl
theorem dels_entry (k : Nm) (l : List (Nm × Value)) : DataW.map ((DiskM.del k l).map entry) = (DataW.map (l.map entry)).del (.string k) := by
  rw [del_entry]; rfl
theorem find_entry (k : Nm) (l : List (Nm × Value)) : (l.map entry).find? (fun p => p.1.sameKey (.string k)) = (l.find? fun p => p.1 == k).map entry := by
  rw [List.find?_map]; rfl
theorem at_entry (k : Nm) (l : List (Nm × Value)) (z : DataW Value) : (DataW.map (l.map entry)).atKey (.string k) z = ((DiskM.look k l).map DataW.held).getD z := by
  unfold DataW.atKey DiskM.look
  simp only
  rw [find_entry]
  cases l.find? (fun p => p.1 == k) <;> rfl
theorem has_entry (k : Nm) (l : List (Nm × Value)) : Maps.has (DataW.map (l.map entry)) (.string k) = (DiskM.look k l).isSome := by
  rw [Maps.has_eq]
  unfold DiskM.look
  induction l with
  | nil => rfl
  | cons y r ih =>
    by_cases h : (y.1 == k) = true
    · rw [List.map_cons, List.any_cons, List.find?_cons_of_pos (p := fun p : Nm × Value => p.1 == k) h]
      have : (entry y).1.sameKey (.string k) = true := h
      simp [this]
    · rw [List.map_cons, List.any_cons, List.find?_cons_of_neg (p := fun p : Nm × Value => p.1 == k) h, ih]
      have : (entry y).1.sameKey (.string k) = false := Bool.eq_false_iff.2 h
      simp [this]
theorem MapAt.tight {n : Nat} (h : w.ownsMap Tryz.prog 9 heldR b n (.map (es.map entry))) : MapAt w b es := by
  obtain ⟨es', clock, hb, F, hs, hD⟩ := h
  refine ⟨es', clock, hb, F, ?_, hD⟩
  injection hD with hD
  have := congrArg List.length hD
  rw [length_sorted, List.length_map, List.length_map] at this
  simp at this
  omega
theorem MapAt.rising (h : MapAt w b es) : Rising es := by
  obtain ⟨es', clock, hb, F, hs, hD⟩ := h
  have h1 := Maps.sorted_sorted keyS.one _ (Maps.fit_keys F) (Maps.fit_apart keyS F)
  injection hD with hD
  rw [← hD, List.pairwise_map] at h1
  exact h1.imp fun hl => hl
theorem MapAt.lt (h : MapAt w b es) : b < w.heap.size := World.ownsMap.lt h
theorem MapAt.made (w : World) : MapAt (w.alloc (.map #[] 0)) w.heap.size [] := World.ownsMap_made _ _ _ _
theorem MapAt.keep (h : MapAt w b es) (hk : w'.heap[b]? = w.heap[b]?) : MapAt w' b es := by
  obtain ⟨es', clock, hb, r⟩ := h
  exact ⟨es', clock, hk.trans hb, r⟩
theorem MapAt.not_cells (h : MapAt w b es) {cs : Array Value} {t : TypeId} {f : Nat × Nat} : w.heap[b]? ≠ some (.cells cs t f) := by
  obtain ⟨es', clock, hb, r⟩ := h
  rw [hb]; intro e; cases e
/-- the file's value at a name, or that of none -/
def fileAt (es : List (Nm × Value)) (k : Nm) : Value := (DiskM.look k es).getD (.agg #[.slice none 0 0, .int .i64 0])
set_option maxRecDepth 100000 in
theorem MapAt.look_ok (h : MapAt w b es) (s : ByteArray) (hs : s.size ≤ maxLen) :
    (Instr.lookup 44 (.map (some b)) (.string s) true).run Tryz.prog w = .ok (.tuple #[fileAt es s.data.toList, .bool (DiskM.look s.data.toList es).isSome]) w := by
  obtain ⟨v, ps, hrun, hv⟩ := World.ownsMap.look_ok h keyS underM (zeroF w) (zd := .held (.agg #[.slice none 0 0, .int .i64 0])) (zp := []) rfl (keyOf_s s hs)
  rw [has_entry] at hrun
  rw [hrun]
  rw [at_entry] at hv
  unfold heldR at hv
  injection hv with hv
  injection hv with hv _
  unfold fileAt
  cases hl : DiskM.look s.data.toList es with
  | none => rw [hl] at hv; simp at hv; rw [hv]; rfl
  | some x => rw [hl] at hv; simp at hv; rw [hv]; rfl
set_option maxRecDepth 100000 in
theorem MapAt.look_plain (h : MapAt w b es) (s : ByteArray) (hs : s.size ≤ maxLen) :
    (Instr.lookup 44 (.map (some b)) (.string s) false).run Tryz.prog w = .ok (fileAt es s.data.toList) w := by
  obtain ⟨v, ps, hrun, hv⟩ := World.ownsMap.lookup h keyS underM (zeroF w) (zd := .held (.agg #[.slice none 0 0, .int .i64 0])) (zp := []) rfl (keyOf_s s hs)
  rw [hrun]
  rw [at_entry] at hv
  unfold heldR at hv
  injection hv with hv
  injection hv with hv _
  unfold fileAt
  cases hl : DiskM.look s.data.toList es with
  | none => rw [hl] at hv; simp at hv; rw [hv]; rfl
  | some x => rw [hl] at hv; simp at hv; rw [hv]; rfl
theorem MapAt.store (h : MapAt w b es) (s : ByteArray) (hs : s.size ≤ maxLen) (hn : es.length < 9223372036854775807) (v : Value) :
    ∃ w', (Instr.mapUpdate 44 (.map (some b)) (.string s) v).run Tryz.prog w = .ok () w' ∧ MapAt w' b (DiskM.put s.data.toList v es) ∧ w.grownBy w' (some b) := by
  obtain ⟨w', hrun, h1, h2⟩ := World.ownsMap.store h keyS underM (by unfold maxLen; omega) (val := v) (d := .held v) (ps := []) (keyOf_s s hs) rfl
  rw [← put_entry] at h1
  exact ⟨w', hrun, MapAt.tight h1, h2.grown⟩
theorem MapAt.drop (h : MapAt w b es) (s : ByteArray) (hs : s.size ≤ maxLen) (ty : TypeId) :
    ∃ w', (Builtin.delete_ #[44, 9] ty #[.map (some b), .string s]).run Tryz.prog w = .ok (.tuple #[]) w' ∧ MapAt w' b (DiskM.del s.data.toList es) ∧ w.grownBy w' (some b) := by
  obtain ⟨w', hrun, h1, h2⟩ := World.ownsMap.drop h keyS underM (keyOf_s s hs) ty
  rw [← dels_entry] at h1
  exact ⟨w', hrun, MapAt.tight h1, h2.grown⟩
end
end Go.Proofs.YtopnhplacdbkdaaGreat
