/- Acts collected in a row of the call's own; append of one more. Plain lemmas on worlds and the laws of append at this program, no condition. -/
import Derived.Test.YtifdmgloheampaaDoorScriptI
import Derived.Test.YtifdmgloheampaaDoorRow
import Derived.Test.YtifdmgloheampaaDoorBoxes
namespace Go.Proofs.YtifdmgloheampaaDoor
open Go.RowKit DiskM ScriptM

theorem info_act : (Tryd.prog.info? 30).map (fun i => (i.zero, i.size, i.bytes)) = some (some (.agg #[.int .i64 0, .int .i64 0, .bool false, .slice none 0 0, .string .empty, .int .u32 0]), 6, 72) := by kernel_rfl
def cellsL (vs : List ActV) : List Value := (vs.map fun v => v.x.cells.toList).flatten
theorem cells_six (x : ActC) : x.cells.toList.length = 6 := rfl
theorem cellsL_snoc (vs : List ActV) (v : ActV) : cellsL (vs ++ [v]) = cellsL vs ++ v.x.cells.toList := by simp [cellsL]
theorem cellsL_len (vs : List ActV) : (cellsL vs).length = vs.length * 6 := by
  induction vs with
  | nil => rfl
  | cons v r ih =>
    have h : cellsL (v :: r) = v.x.cells.toList ++ cellsL r := rfl
    rw [h, List.length_append, ih, cells_six, List.length_cons]; omega
theorem cellsL_at (vs : List ActV) (j i : Nat) (v : ActV) (u : Value) (hj : vs[j]? = some v) (hi : v.x.cells[i]? = some u) : (cellsL vs)[j * 6 + i]? = some u := by
  induction vs generalizing j with
  | nil => simp at hj
  | cons a r ih =>
    have h : cellsL (a :: r) = a.x.cells.toList ++ cellsL r := rfl
    have hi6 : i < 6 := (Array.getElem?_eq_some_iff.1 hi).1
    cases j with
    | zero =>
      simp only [List.getElem?_cons_zero, Option.some.injEq] at hj
      subst hj
      rw [h, Nat.zero_mul, Nat.zero_add, List.getElem?_append_left (by rw [cells_six]; exact hi6), Array.getElem?_toList]; exact hi
    | succ j =>
      rw [h, List.getElem?_append_right (by rw [cells_six]; omega), cells_six, show (j + 1) * 6 + i - 6 = j * 6 + i by omega]
      exact ih j (by simpa using hj)
/-- acts collected: the row, what each act is, and no act's Keep in the row -/
structure ActsAt (w : World) (B : Nat) (a : Option Addr) (c : Nat) (vs : List ActV) : Prop where
  row : Row w B 30 6 a vs.length c (cellsL vs)
  each : ∀ v ∈ vs, v.Ok w w.heap.size ∧ (v.keep = [] ∨ ∃ g o, v.x.ka = some ⟨g, o, none⟩ ∧ B ≤ g ∧ a.map (·.block) ≠ some g)
/-- what a new act has to be -/
def ActNew (w : World) (B : Nat) (v : ActV) : Prop := v.Ok w w.heap.size ∧ (v.keep = [] ∨ ∃ g o, v.x.ka = some ⟨g, o, none⟩ ∧ B ≤ g)
theorem ActV.Ok.keep {v : ActV} {w w' : World} (h : v.Ok w w.heap.size) (hs : w.heap.size ≤ w'.heap.size) (hk : v.keep = [] ∨ ∃ g o, v.x.ka = some ⟨g, o, none⟩ ∧ (g < w.heap.size → w'.heap[g]? = w.heap[g]?)) : v.Ok w' w'.heap.size := by
  refine ⟨h.kind, h.n, h.len, h.most, h.nm, ?_, h.mask⟩
  rcases hk with h0 | ⟨g, o, hka, hg⟩
  · exact .inl h0
  · rcases h.rd with h0 | ⟨b, o2, e2, hb, hc⟩
    · exact .inl h0
    · rw [hka] at e2
      injection e2 with e2
      injection e2 with e3 e4
      subst e3; subst e4
      exact .inr ⟨g, o, hka, by omega, fun i x hx => (World.cell?_of_block (w := w) (w' := w') (a := ⟨g, o + i, none⟩) (hg hb)).trans (hc i x hx)⟩
theorem ActsAt.nil_ (w : World) (B : Nat) : ActsAt w B none 0 [] := ⟨Row.nil_ w B _ _, by simp⟩
section
variable {w w' : World} {B B' : Nat} {a a' : Option Addr} {c c' : Nat} {vs : List ActV} {v : ActV}
theorem ActsAt.call (h : ActsAt w B a c vs) (hb : Below w.heap.size w w') : ActsAt w' B a c vs := ⟨h.row.call hb, fun v hv => ⟨(h.each v hv).1.call hb, (h.each v hv).2⟩⟩
theorem ActsAt.lower (h : ActsAt w B a c vs) (hB : B' ≤ B) : ActsAt w B' a c vs := ⟨h.row.lower hB, fun v hv => ⟨(h.each v hv).1, (h.each v hv).2.imp id fun ⟨g, o, h1, h2, h3⟩ => ⟨g, o, h1, by omega, h3⟩⟩⟩
theorem ActNew.call (h : ActNew w B v) (hb : Below w.heap.size w w') : ActNew w' B v := ⟨h.1.call hb, h.2⟩
/-- a store elsewhere -/
theorem ActsAt.far (h : ActsAt w B a c vs) {p : Addr} (hp : p.block < B) (u : Value) : ActsAt (w.setCell p u) B a c vs := by
  refine ⟨h.row.far (fun x hx => ?_) u, fun v hv => ⟨(h.each v hv).1.keep (by simp [World.setCell]) ?_, (h.each v hv).2⟩⟩
  · have := h.row.row_le x.block (by rw [hx]; rfl)
    omega
  · rcases (h.each v hv).2 with h0 | ⟨g, o, h1, h2, _⟩
    · exact .inl h0
    · exact .inr ⟨g, o, h1, fun _ => Below.heap_setCell w p u g (by omega)⟩
theorem ActsAt.turned (h : ActsAt w B a c vs) {row : Option Nat} (hg : w.grownBy w' row) (hr : ∀ r, row = some r → ∃ o : Obj, w.heap[r]? = some o ∧ o.isCells = false) : ActsAt w' B a c vs := by
  have hkeep : ∀ (g : Nat) (x : Obj), w.heap[g]? = some x → x.isCells = true → some g ≠ row := by
    intro g x hx hc he
    obtain ⟨o, ho, hoc⟩ := hr g he.symm
    rw [ho] at hx; injection hx with hx; subst hx
    rw [hoc] at hc; cases hc
  refine ⟨h.row.grown hg (fun x hx he => ?_), fun v hv => ⟨?_, (h.each v hv).2⟩⟩
  · rcases h.row.form with ⟨h0, _⟩ | ⟨g, cur, h1, _, _, hh, _⟩
    · rw [h0] at hx; cases hx
    · rw [h1] at hx; injection hx with hx; subst hx
      exact hkeep g _ hh rfl he
  · have hv1 := (h.each v hv).1
    refine ⟨hv1.kind, hv1.n, hv1.len, hv1.most, hv1.nm, ?_, hv1.mask⟩
    exact (hv1.rd.turned hg hr).more hg.size
/-- one act more -/
theorem ActsAt.snoc (h : ActsAt w B a c vs) (hv : ActNew w B v) (hgr : w.grownBy w' (a.map (·.block))) (hrow : Row w' B 30 6 a' (vs.length + 1) c' (cellsL vs ++ v.x.cells.toList))
    (hat : a'.map (·.block) = a.map (·.block) ∨ a'.map (·.block) = some w.heap.size) (hva : v.keep = [] ∨ ∃ g o, v.x.ka = some ⟨g, o, none⟩ ∧ B ≤ g ∧ a.map (·.block) ≠ some g) : ActsAt w' B a' c' (vs ++ [v]) := by
  refine ⟨by rw [cellsL_snoc]; simpa using hrow, fun x hx => ?_⟩
  have hx2 : x.Ok w w.heap.size ∧ (x.keep = [] ∨ ∃ g o, x.x.ka = some ⟨g, o, none⟩ ∧ B ≤ g ∧ a.map (·.block) ≠ some g) := by
    rcases List.mem_append.1 hx with hx | hx
    · exact h.each x hx
    · rw [List.mem_singleton.1 hx]; exact ⟨hv.1, hva⟩
  obtain ⟨h1, h2⟩ := hx2
  refine ⟨h1.keep hgr.size (h2.imp id fun ⟨g, o, e1, e2, e3⟩ => ⟨g, o, e1, fun hl => hgr.block g hl (fun e => e3 e.symm)⟩), ?_⟩
  by_cases h0 : x.keep = []
  · exact .inl h0
  · rcases h2 with h2 | ⟨g, o, e1, e2, e3⟩
    · exact absurd h2 h0
    · refine .inr ⟨g, o, e1, e2, ?_⟩
      rcases hat with e | e
      · rw [e]; exact e3
      · rw [e]
        intro e4
        injection e4 with e4
        rcases h1.rd with h3 | ⟨b, o2, e5, hb, _⟩
        · exact h0 h3
        · rw [e1] at e5
          injection e5 with e5
          injection e5 with e6 _
          omega
theorem ActsAt.rdv (h : ActsAt w B a c vs) : RdV w w.heap.size a vs := by
  rcases h.row.form with ⟨_, h0, _, _⟩ | ⟨g, cur, rfl, hB, hg, hh, hn, hc, hs, ht⟩
  · exact .inl (List.length_eq_zero_iff.1 h0)
  · refine .inr ⟨g, 0, rfl, hg, fun j v hj => ⟨fun i u hu => ?_, (h.each v (List.mem_of_getElem? hj)).1⟩⟩
    obtain ⟨g', e1, _, _, h4⟩ := h.row.at_ (cellsL_at vs j i v u hj hu)
    injection e1 with e1; injection e1 with e1; subst e1
    rw [Nat.zero_add]; exact h4
end
end Go.Proofs.YtifdmgloheampaaDoor
