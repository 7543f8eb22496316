/- A slice of structs of one-cell fields, opened: each field's cell and what it reads as; acts of scripts. No condition. -/
import Derived.Test.YtifdmgloheampaaDoorOpenU
import Derived.Test.YtifdmgloheampaaDoorScriptI
import Derived.Deep.Slices
import Derived.Deep.Fields
import Derived.ChangeSame
namespace Go.Proofs.YtifdmgloheampaaDoor
open Go.ChangeShapes Go.WideShapes Go.Deep Go.RowKit

section
variable {H : Type} {enc : TypeId × Value → H} {P : Program} {w : World} {base : Nat} {spare : Nat → Bool} {held : Bool}
theorem open_structs {t e : TypeId} {fs : Array Field} {fuel : Nat} {A : Option Addr} {len cap : Nat} {x : DataW H × List MemPlace} (ht : P.underlying t = some (.slice e)) (he : P.underlying e = some (.struct fs))
    (hone : oneCellFields P fs = true) (hC : P.cellsOf e = fs.size) (h : DataW.trod enc P w base spare held fuel t [.slice A len cap] = some x) :
    (A = none ∧ len = 0 ∧ cap = 0) ∨ ∃ a, A = some a ∧ len ≤ cap ∧ cap ≤ maxLen ∧ ∀ i, i < len → ∃ n, ∀ (j : Nat) (f : Field), fs[j]? = some f → ∃ v y, w.cell? (a.add (i * fs.size + j)) = some v ∧ DataW.trod enc P w base spare held n f.type [v] = some y := by
  rcases open_slice ht h with ⟨h0, _⟩ | ⟨a, len', cap', m, n, D, Pl, hcs, _, hl, hm, hmm, _, hi⟩
  · simp only [List.cons.injEq, Value.slice.injEq, and_true] at h0
    exact .inl h0
  · simp only [List.cons.injEq, Value.slice.injEq, and_true] at hcs
    obtain ⟨rfl, rfl, rfl⟩ := hcs
    refine .inr ⟨a, rfl, hl, hm, fun i hil => ?_⟩
    obtain ⟨cs', hc, ht'⟩ := hi i (by rw [hmm]; split <;> omega)
    rw [hC] at hc
    obtain ⟨ys, n', _, _, hlen, hyl, hf⟩ := DataW.trod_struct he ht'
    obtain ⟨_, hcl, hat⟩ := World.cells?_some hc
    refine ⟨n', fun j f hj => ?_⟩
    obtain ⟨ho, hk⟩ := hone_of hone j f hj
    have hjl : j < fs.size := (Array.getElem?_eq_some_iff.1 hj).1
    have h1 := hf j f hj
    rw [ho, hk, List.drop_eq_getElem_cons (by omega), List.take_succ_cons, List.take_zero] at h1
    refine ⟨cs'[j]'(by omega), ys[j]'(by omega), ?_, h1.trans (List.getElem?_eq_getElem (by omega))⟩
    rw [← Go.Deep.add_add, hat j hjl]
    exact List.getElem?_eq_getElem (by omega)
end
/-- a field that is a slice of bytes -/
theorem open_bytes_at {H : Type} {enc : TypeId × Value → H} {W : World} {sp : Nat → Bool} {hd : Bool} {fuel : Nat} {v : Value} {y : DataW H × List MemPlace}
    (hf : DataW.trod enc Tryd.prog W 0 sp hd fuel 27 [v] = some y) :
    ∃ a n c bs, v = .slice a n c ∧ bs.length = n ∧ n ≤ 9223372036854775807 ∧ Rd W W.heap.size a bs ∧ (bs = [] ∨ ∀ ad, a = some ad → ad.block < W.heap.size) := by
  rcases open_ints Tryd.underlying27 Tryd.underlying5 (by kernel_rfl) hf with ⟨hcs, _⟩ | ⟨x, l, c, zs, hcs, _, hl, hm, hz, _, hcell, hwz⟩
  · simp only [List.cons.injEq, and_true] at hcs
    exact ⟨none, 0, 0, [], hcs, rfl, by omega, .inl rfl, .inl rfl⟩
  · simp only [List.cons.injEq, and_true] at hcs
    unfold maxLen at hm
    have hzl : l ≤ zs.length := by rw [hz]; split <;> omega
    refine ⟨some x, l, c, (zs.take l).map fun n => UInt8.ofNat n.toNat, hcs, by simp; omega, by omega, ?_⟩
    by_cases h0 : l = 0
    · exact ⟨.inl (by simp [h0]), .inl (by simp [h0])⟩
    · have hb : x.block < W.heap.size := by
        have := block_lt_of_cell (hcell 0 (by omega))
        rwa [show (x.add 0).block = x.block by simp [Addr.add]] at this
      exact ⟨Rd.of_ints hb (by omega) hcell hwz, .inr fun ad ha => by injection ha with ha; rw [← ha]; exact hb⟩
theorem fields_act30 : ∃ fs, Tryd.prog.underlying 30 = some (.struct fs) ∧ oneCellFields Tryd.prog fs = true ∧ Tryd.prog.cellsOf 30 = fs.size ∧ fs.map (·.type) = #[3, 3, 4, 27, 9, 28] :=
  ⟨_, Tryd.underlying30, by kernel_rfl, by kernel_rfl, by kernel_rfl⟩
set_option maxRecDepth 4000 in
theorem open_acts {H : Type} {enc : TypeId × Value → H} {W : World} {sp : Nat → Bool} {hd : Bool} {A : Option Addr} {len cap : Nat} {d : DataW H} {p : List MemPlace}
    (h : DataW.Trod enc Tryd.prog W 0 sp hd 22 (.slice A len cap) d p) :
    ∃ xs : List ActV, xs.length = len ∧ len ≤ 9223372036854775807 ∧ RdV W W.heap.size A xs := by
  obtain ⟨fuel, hf⟩ := h
  have hf : DataW.trod enc Tryd.prog W 0 sp hd fuel 22 [.slice A len cap] = some (d, p) := hf
  obtain ⟨fs, hu, hone, hC, hty⟩ := fields_act30
  have hfs : fs.size = 6 := by have := congrArg Array.size hty; simpa using this
  rcases open_structs Tryd.underlying22 hu hone hC hf with ⟨rfl, rfl, rfl⟩ | ⟨a, rfl, hl, hm, hi⟩
  · exact ⟨[], rfl, by omega, .inl rfl⟩
  unfold maxLen at hm
  by_cases h0 : len = 0
  · subst h0
    exact ⟨[], rfl, by omega, .inl rfl⟩
  have hty' : ∀ (j : Nat) (t : TypeId), (#[3, 3, 4, 27, 9, 28] : Array TypeId)[j]? = some t → ∃ f, fs[j]? = some f ∧ f.type = t := by
    intro j t hj
    rw [← hty, Array.getElem?_map] at hj
    cases hfj : fs[j]? with
    | none => rw [hfj] at hj; cases hj
    | some f => rw [hfj] at hj; exact ⟨f, rfl, by simpa using hj⟩
  have key : ∀ i, ∃ x : ActV, i < len → (∀ (j : Nat) v, x.x.cells[j]? = some v → W.cell? (a.add (i * 6 + j)) = some v) ∧ x.Ok W W.heap.size := by
    intro i
    by_cases hil : i < len
    rotate_left
    · exact ⟨⟨⟨0, 0, false, none, 0, 0, .empty, 0⟩, []⟩, fun h => absurd h hil⟩
    obtain ⟨n, hn⟩ := hi i hil
    rw [hfs] at hn
    have get : ∀ (j : Nat) (t : TypeId), (#[3, 3, 4, 27, 9, 28] : Array TypeId)[j]? = some t → ∃ v y, W.cell? (a.add (i * 6 + j)) = some v ∧ DataW.trod enc Tryd.prog W 0 sp hd n t [v] = some y := by
      intro j t hj
      obtain ⟨f, hfj, rfl⟩ := hty' j t hj
      exact hn j f hfj
    obtain ⟨v0, y0, c0, t0⟩ := get 0 _ rfl
    obtain ⟨v1, y1, c1, t1⟩ := get 1 _ rfl
    obtain ⟨v2, y2, c2, t2⟩ := get 2 _ rfl
    obtain ⟨v3, y3, c3, t3⟩ := get 3 _ rfl
    obtain ⟨v4, y4, c4, t4⟩ := get 4 _ rfl
    obtain ⟨v5, y5, c5, t5⟩ := get 5 _ rfl
    obtain ⟨z0, e0, _, g0⟩ := DataW.trod_int Tryd.underlying3 t0
    obtain ⟨z1, e1, _, g1⟩ := DataW.trod_int Tryd.underlying3 t1
    obtain ⟨z2, e2, _⟩ := DataW.trod_bool Tryd.underlying4 t2
    obtain ⟨sa, sn, sc, bs, e3, g3, g4, g5, g6⟩ := open_bytes_at t3
    obtain ⟨z4, e4, _, g7⟩ := DataW.trod_string Tryd.underlying9 t4
    obtain ⟨z5, e5, _, g8⟩ := DataW.trod_int Tryd.underlying28 t5
    simp only [List.cons.injEq, and_true] at e0 e1 e2 e4 e5
    subst e0; subst e1; subst e2; subst e3; subst e4; subst e5
    obtain ⟨n5, rfl, l5⟩ := nat_of_wf_u32 g8
    unfold maxLen at g7
    refine ⟨⟨⟨z0, z1, z2, sa, sn, sc, z4, n5⟩, bs⟩, fun _ => ⟨fun j v hv => ?_, ⟨⟨(i64_of_wf g0).1, (i64_of_wf g0).2⟩, ⟨(i64_of_wf g1).1, (i64_of_wf g1).2⟩, g3, g4, g7, g5, l5⟩⟩⟩
    have hj : j < 6 := (Array.getElem?_eq_some_iff.1 hv).1
    rcases (by omega : j = 0 ∨ j = 1 ∨ j = 2 ∨ j = 3 ∨ j = 4 ∨ j = 5) with rfl | rfl | rfl | rfl | rfl | rfl
    all_goals
      injection hv with hv
      subst hv
      assumption
  obtain ⟨F, hF⟩ : ∃ F : Nat → ActV, ∀ i, i < len → (∀ (j : Nat) v, (F i).x.cells[j]? = some v → W.cell? (a.add (i * 6 + j)) = some v) ∧ (F i).Ok W W.heap.size := ⟨fun i => Classical.choose (key i), fun i => Classical.choose_spec (key i)⟩
  obtain ⟨b, o, spot⟩ := a
  have h1 := (hF 0 (by omega)).1 0 _ rfl
  have hspot : spot = none := by simpa [Addr.add] using World.cell?_spot h1
  subst hspot
  have hb : b < W.heap.size := by
    have := block_lt_of_cell h1
    rwa [show (Addr.add ⟨b, o, none⟩ (0 * 6 + 0)).block = b by simp [Addr.add]] at this
  refine ⟨(List.range len).map F, by simp, by omega, .inr ⟨b, o, rfl, hb, fun j x hx => ?_⟩⟩
  rw [List.getElem?_map] at hx
  by_cases hj : j < len
  · rw [List.getElem?_range hj] at hx
    simp only [Option.map_some, Option.some.injEq] at hx
    subst hx
    obtain ⟨k1, k2⟩ := hF j hj
    refine ⟨fun i v hv => ?_, k2⟩
    have := k1 i v hv
    rw [Addr.add_lit] at this
    rwa [Nat.add_assoc]
  · rw [List.getElem?_eq_none (by simpa using hj)] at hx
    cases hx
end Go.Proofs.YtifdmgloheampaaDoor
