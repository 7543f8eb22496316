/- The disk while one of its files is being made: a store, a delete. Plain lemmas on worlds, no condition. -/
import Derived.Test.YtopnhplacdbkdaaGreatDisk
namespace Go.Proofs.YtopnhplacdbkdaaGreat
open Go.RowKit DiskM

/-- the disk, but for what lies behind one name -/
structure DiskBut (w : World) (fp : Nat → Prop) (p mb : Nat) (fv : FVs) (d : DS) (k : Nm) : Prop where
  cells : w.heap[p]? = some (.cells (diskCells mb d) 47 (0, 0))
  map : MapAt w mb (fv.map (onV FileV.val))
  fpp : fp p
  fpm : fp mb
  rows : ∀ x ∈ fv, x.1 ≠ k → Fil w x.2.a x.2.n x.2.c x.2.bs ∧ ∀ ad, x.2.a = some ad → fp ad.block
  apart : ∀ x ∈ fv, ∀ y ∈ fv, x.1 ≠ k → y.1 ≠ k → x.1 ≠ y.1 → ∀ ax ay, x.2.a = some ax → y.2.a = some ay → ax.block ≠ ay.block
  files : d.files = fv.map (onV FileV.abs)
  lt : ∀ k, fp k → k < w.heap.size
  ok : d.Ok
section
variable {w w' : World} {fp fp' : Nat → Prop} {p mb : Nat} {fv : FVs} {d d' : DS} {k : Nm}
theorem DiskRaw.but (h : DiskRaw w fp p mb fv d) (k : Nm) : DiskBut w fp p mb fv d k :=
  ⟨h.cells, h.map, h.fpp, h.fpm, fun x hx _ => h.rows x hx, fun x hx y hy _ _ => h.apart x hx y hy, h.files, h.lt, h.ok⟩
theorem DiskBut.keep (h : DiskBut w fp p mb fv d k) (hp : w'.heap[p]? = w.heap[p]?) (hm : w'.heap[mb]? = w.heap[mb]?) (hk : ∀ x ∈ fv, x.1 ≠ k → ∀ ad, x.2.a = some ad → w'.heap[ad.block]? = w.heap[ad.block]?) (hs : w.heap.size ≤ w'.heap.size) : DiskBut w' fp p mb fv d k :=
  ⟨hp.trans h.cells, h.map.keep hm, h.fpp, h.fpm, fun x hx hne => ⟨(h.rows x hx hne).1.keep fun ad ha => hk x hx hne ad ha, (h.rows x hx hne).2⟩, h.apart, h.files, fun j hj => Nat.lt_of_lt_of_le (h.lt j hj) hs, h.ok⟩
theorem Fil.ne_map {a : Option Addr} {n c : Nat} {bs : List UInt8} {es : List (Nm × Value)} (h : Fil w a n c bs) (hm : MapAt w mb es) : ∀ x, a = some x → x.block ≠ mb := by
  intro x hx e
  obtain ⟨_, _, _, ⟨h4, _⟩ | ⟨g, cur, e1, hh, _⟩⟩ := h
  · rw [h4] at hx; cases hx
  · rw [e1] at hx; injection hx with hx; subst hx
    subst e
    exact hm.not_cells hh
theorem Fil.ne_disk {a : Option Addr} {n c : Nat} {bs : List UInt8} {cs : Array Value} (h : Fil w a n c bs) (hc : w.heap[p]? = some (.cells cs 47 (0, 0))) : ∀ x, a = some x → x.block ≠ p := by
  intro x hx e
  obtain ⟨_, _, _, ⟨h4, _⟩ | ⟨g, cur, e1, hh, _⟩⟩ := h
  · rw [h4] at hx; cases hx
  · rw [e1] at hx; injection hx with hx; subst hx
    subst e
    have h7 := hh.symm.trans hc
    injection h7 with h7
    injection h7 with _ h8
    exact absurd h8 (by decide)
/-- the row of one file has grown, or a new one was laid -/
theorem DiskRaw.grown (h : DiskRaw w fp p mb fv d) (k : Nm) {row : Option Nat} (hg : w.grownBy w' row) (hr : row = (getF fv k).a.map (·.block)) : DiskBut w' fp p mb fv d k := by
  have hne : ∀ j, (∀ ad, (getF fv k).a = some ad → ad.block ≠ j) → some j ≠ row := by
    intro j hj e
    rw [hr] at e
    cases ha : (getF fv k).a with
    | none => rw [ha] at e; cases e
    | some ad =>
      rw [ha] at e
      simp only [Option.map_some, Option.some.injEq] at e
      exact hj ad ha e.symm
  have hkeep : ∀ j, fp j → (∀ ad, (getF fv k).a = some ad → ad.block ≠ j) → w'.heap[j]? = w.heap[j]? := fun j hj hq => hg.block j (h.lt j hj) (hne j hq)
  refine (h.but k).keep (hkeep p h.fpp fun ad ha => (h.fil k).ne_disk h.cells ad ha) (hkeep mb h.fpm fun ad ha => (h.fil k).ne_map h.map ad ha) (fun x hx hxk ad ha => hkeep _ ((h.rows x hx).2 ad ha) fun ad2 ha2 => ?_) hg.size
  by_cases hs : (DiskM.look k fv).isSome = true
  · exact h.apart _ (getF_mem hs) x hx (fun e => hxk e.symm) _ _ ha2 ha
  · have : getF fv k = FileV.none_ := by
      unfold getF
      cases hl : DiskM.look k fv with
      | none => rfl
      | some v => rw [hl] at hs; simp at hs
    rw [this] at ha2; cases ha2
/-- a file is laid in its place -/
theorem DiskBut.store (h : DiskBut w fp p mb fv d k) (s : ByteArray) (hk : s.data.toList = k) (hs : s.size ≤ 16) (f : FileV) (hfil : Fil w f.a f.n f.c f.bs) (hap : ∀ x ∈ fv, x.1 ≠ k → ∀ ax ad, x.2.a = some ax → f.a = some ad → ax.block ≠ ad.block)
    (hv : f.sure ≤ f.bs.length) (hu : f.bs.length + used d.files ≤ 16777216 + (DiskM.old d k).1.length) (hfew : (DiskM.put k f.abs d.files).length ≤ 1000000) :
    ∃ w', (Instr.mapUpdate 44 (.map (some mb)) (.string s) f.val).run Tryz.prog w = .ok () w' ∧ DiskRaw w' (fun j => fp j ∨ ∃ ad, f.a = some ad ∧ j = ad.block) p mb (DiskM.put k f fv) (DiskM.setF d k f.abs) ∧ w.grownBy w' (some mb) := by
  have hlen : fv.length ≤ 1000000 := by have := h.ok.few; rw [h.files] at this; simpa using this
  obtain ⟨w', hrun, hm, hg⟩ := h.map.store s (by unfold maxLen; omega) (by simp; omega) f.val
  rw [hk, ← put_map] at hm
  have hkeep : ∀ j, j < w.heap.size → j ≠ mb → w'.heap[j]? = w.heap[j]? := fun j hj hq => hg.block j hj (fun e => hq (by injection e))
  have hpm : p ≠ mb := by
    intro e
    have := h.cells
    rw [e] at this
    exact h.map.not_cells this
  refine ⟨w', hrun, ⟨(hkeep p (h.lt p h.fpp) hpm).trans h.cells, hm, .inl h.fpp, .inl h.fpm, ?_, ?_, ?_, ?_, ?_⟩, hg⟩
  · intro x hx
    rcases mem_put.1 hx with rfl | ⟨hx, hne⟩
    · exact ⟨hfil.keep fun ad ha => hkeep _ (hfil.lt ad ha) (hfil.ne_map h.map ad ha), fun ad ha => .inr ⟨ad, ha, rfl⟩⟩
    · obtain ⟨h1, h2⟩ := h.rows x hx hne
      exact ⟨h1.keep fun ad ha => hkeep _ (h1.lt ad ha) (h1.ne_map h.map ad ha), fun ad ha => .inl (h2 ad ha)⟩
  · intro x hx y hy hne ax ay hax hay
    rcases mem_put.1 hx with rfl | ⟨hx, hnx⟩
    · rcases mem_put.1 hy with rfl | ⟨hy, hny⟩
      · exact absurd rfl hne
      · exact (hap y hy hny ay ax hay hax).symm
    · rcases mem_put.1 hy with rfl | ⟨hy, hny⟩
      · exact hap x hx hnx ax ay hax hay
      · exact h.apart x hx y hy hnx hny hne ax ay hax hay
  · show DiskM.put k f.abs d.files = _
    rw [h.files, put_map]
  · rintro j (hj | ⟨ad, ha, rfl⟩)
    · exact Nat.lt_of_lt_of_le (h.lt j hj) hg.size
    · exact Nat.lt_of_lt_of_le (hfil.lt ad ha) hg.size
  · exact setF_ok h.ok (by rw [← hk]; simpa using hs) hv hu hfew
/-- a file is taken away; it is still there itself -/
theorem DiskRaw.dropped (h : DiskRaw w fp p mb fv d) (s : ByteArray) (hs : s.size ≤ maxLen) (ty : TypeId) :
    ∃ w', (Builtin.delete_ #[44, 9] ty #[.map (some mb), .string s]).run Tryz.prog w = .ok (.tuple #[]) w' ∧ DiskRaw w' fp p mb (DiskM.del s.data.toList fv) (DiskM.dropF d s.data.toList) ∧ w.grownBy w' (some mb) ∧
      Fil w' (getF fv s.data.toList).a (getF fv s.data.toList).n (getF fv s.data.toList).c (getF fv s.data.toList).bs := by
  obtain ⟨w', hrun, hm, hg⟩ := h.map.drop s hs ty
  rw [← del_map] at hm
  have hkeep : ∀ j, j < w.heap.size → j ≠ mb → w'.heap[j]? = w.heap[j]? := fun j hj hq => hg.block j hj (fun e => hq (by injection e))
  have hf := h.fil s.data.toList
  refine ⟨w', hrun, ⟨(hkeep p (h.lt p h.fpp) h.ne.symm).trans h.cells, hm, h.fpp, h.fpm, ?_, ?_, ?_, fun j hj => Nat.lt_of_lt_of_le (h.lt j hj) hg.size, dropF_ok h.ok _⟩, hg, hf.keep fun ad ha => hkeep _ (hf.lt ad ha) (hf.ne_map h.map ad ha)⟩
  · intro x hx
    obtain ⟨h1, h2⟩ := h.rows x (mem_del.1 hx).1
    exact ⟨h1.keep fun ad ha => hkeep _ (h1.lt ad ha) (h1.ne_map h.map ad ha), h2⟩
  · intro x hx y hy
    exact h.apart x (mem_del.1 hx).1 y (mem_del.1 hy).1
  · show DiskM.del _ d.files = _
    rw [h.files, del_map]
end
end Go.Proofs.YtopnhplacdbkdaaGreat
