/- Words on memory: a slice that reads as numbers of a kind, an array of numbers of the call's own. Plain lemmas on worlds, no condition. -/
import Derived.Test.YtmocmkfpblakbaaDoorTurn
import Derived.Test.YtmocmkfpblakbaaDoorWordsM2
import Derived.Deep.OwnRows
import Derived.Laws.CopyOwn
namespace Go.Proofs.YtmocmkfpblakbaaDoor
open Go.RowKit WordsM

/-- a number as a value -/
def nv (K : IntKind) (x : Nat) : Value := .int K (x : Int)
theorem nv_one (K : IntKind) (ls : List Nat) : ∀ u ∈ ls.map (nv K), u.oneCell' = true := by
  intro u hu
  obtain ⟨x, _, rfl⟩ := List.mem_map.1 hu
  rfl
/-- a slice that begins at a reads as these numbers, below block B -/
def RdI (K : IntKind) (w : World) (B : Nat) (a : Option Addr) (ls : List Nat) : Prop :=
  ls = [] ∨ ∃ b o, a = some ⟨b, o, none⟩ ∧ b < B ∧ ∀ (j : Nat) x, ls[j]? = some x → w.cell? ⟨b, o + j, none⟩ = some (nv K x)
section
variable {K : IntKind} {w w' : World} {B B' : Nat} {a : Option Addr} {ls : List Nat}
theorem RdI.keep (h : RdI K w B a ls) (hk : ∀ p : Addr, p.block < B → w'.cell? p = w.cell? p) : RdI K w' B a ls := by
  rcases h with rfl | ⟨b, o, rfl, hb, hc⟩
  · exact .inl rfl
  · exact .inr ⟨b, o, rfl, hb, fun j x hx => (hk _ hb).trans (hc j x hx)⟩
theorem RdI.more (h : RdI K w B a ls) (hB : B ≤ B') : RdI K w B' a ls := by
  rcases h with rfl | ⟨b, o, rfl, hb, hc⟩
  · exact .inl rfl
  · exact .inr ⟨b, o, rfl, by omega, hc⟩
theorem RdI.below (h : RdI K w B a ls) (hb : Below B w w') : RdI K w' B a ls := h.keep fun _ hp => hb.cell hp
theorem RdI.step (h : RdI K w w.heap.size a ls) (hb : Below w.heap.size w w') : RdI K w' w'.heap.size a ls := (h.below hb).more hb.size
theorem RdI.front (h : RdI K w B a ls) (k : Nat) : RdI K w B a (ls.take k) := by
  rcases h with rfl | ⟨b, o, rfl, hb, hc⟩
  · exact .inl (by simp)
  · refine .inr ⟨b, o, rfl, hb, fun j x hx => hc j x ?_⟩
    rw [List.getElem?_take] at hx
    split at hx
    · exact hx
    · cases hx
theorem RdI.at_ {k x : Nat} (h : RdI K w B a ls) (hx : ls[k]? = some x) : ∃ b o, a = some ⟨b, o, none⟩ ∧ b < B ∧ w.cell? ⟨b, o + k, none⟩ = some (.int K (x : Int)) := by
  rcases h with rfl | ⟨b, o, rfl, hb, hc⟩
  · simp at hx
  · exact ⟨b, o, rfl, hb, hc k x hx⟩
theorem RdI.turn {fp : Nat → Prop} (h : RdI K w B a ls) (ht : Turn fp w w') (hB : B ≤ w.heap.size) (hn : ∀ k, k < B → ¬ fp k) : RdI K w' B a ls := h.keep fun p hp => ht.cell (by omega) (hn _ hp)
end
/-- block g is an array of numbers -/
def Arr (T : TypeId) (K : IntKind) (w : World) (g : Nat) (ls : List Nat) : Prop := w.heap[g]? = some (.cells (ls.map (nv K)).toArray T (0, 0))
section
variable {T : TypeId} {K : IntKind} {w w' : World} {g : Nat} {ls : List Nat}
theorem Arr.lt (h : Arr T K w g ls) : g < w.heap.size := (Array.getElem?_eq_some_iff.1 h).1
theorem Arr.cell (h : Arr T K w g ls) {i x : Nat} (hx : ls[i]? = some x) : w.cell? ⟨g, i, none⟩ = some (.int K (x : Int)) := by
  rw [cell_of_row _ _ _ _ _ _ h]
  simp [hx, nv]
theorem Arr.frozen (h : Arr T K w g ls) (i : Nat) : w.frozen? ⟨g, i, none⟩ = false := frozen_of_row _ _ _ _ _ h
theorem Arr.set (h : Arr T K w g ls) (i x : Nat) : Arr T K (w.setCell ⟨g, i, none⟩ (.int K (x : Int))) g (ls.set i x) := by
  unfold Arr
  rw [heap_setCell_same _ _ _ _ _ _ h]
  rw [List.map_set, List.setIfInBounds_toArray]; rfl
theorem Arr.far (h : Arr T K w g ls) {p : Addr} (hp : p.block ≠ g) (u : Value) : Arr T K (w.setCell p u) g ls := (Below.heap_setCell _ _ _ _ (fun e => hp e.symm)).trans h
theorem Arr.turn {fp : Nat → Prop} (h : Arr T K w g ls) (ht : Turn fp w w') (hn : ¬ fp g) : Arr T K w' g ls := (ht.block g h.lt hn).trans h
theorem Arr.call (h : Arr T K w g ls) (hb : Below w.heap.size w w') : Arr T K w' g ls := (hb.block g h.lt).trans h
theorem Arr.rd (h : Arr T K w g ls) : RdI K w w.heap.size (some ⟨g, 0, none⟩) ls := .inr ⟨g, 0, rfl, h.lt, fun j x hx => by rw [Nat.zero_add]; exact h.cell hx⟩
theorem Arr.new (w : World) (T : TypeId) (K : IntKind) (ls : List Nat) : Arr T K (w.alloc (.cells (ls.map (nv K)).toArray T)) w.heap.size ls := heap_alloc_new _ _
theorem made_zeros (K : IntKind) (n : Nat) : madeCells #[.int K 0] n = ((List.replicate n 0).map (nv K)).toArray := by
  apply Array.ext_getElem?
  intro i
  simp only [madeCells]
  simp [Nat.mod_one, Array.getElem?_map, Array.getElem?_range, Array.getElem?_replicate, nv]
theorem made_zeros' (K : IntKind) (n : Nat) : madeCells #[.int K 0] n = Array.replicate n (nv K 0) := by rw [made_zeros]; simp
theorem Arr.zeros (w : World) (T : TypeId) (K : IntKind) (n : Nat) : Arr T K (w.alloc (.cells (Array.replicate n (nv K 0)) T)) w.heap.size (List.replicate n 0) := by
  have h := Arr.new w T K (List.replicate n 0)
  rwa [show ((List.replicate n 0).map (nv K)).toArray = Array.replicate n (nv K 0) by simp] at h
end
/-- copy of numbers onto the front of an array of the call's own -/
theorem wpList_copy_nums {P : Program} {w : World} {ops : Array Oper} {rest : List Oper} {o : Oper} {act : Act} {Q : Exit → Act → World → Prop} (hgd : o.guard = none) (d s : Operand) (dT sT : TypeId)
    (ho : o.op = .call { callee := .builtin .copy, args := #[d, s], argTypes := #[dT, sT] }) (elem : TypeId) (hu : P.underlying dT = some (.slice elem)) (hsz : (P.info? elem).map (·.size) = some 1)
    (T : TypeId) (K : IntKind) (g D Dc : Nat) (L : List Nat) (hg : Arr T K w g L) (p : Option Addr) (N pc B : Nat) (A : List Nat) (hd : act.eval d = .slice (some ⟨g, 0, none⟩) D Dc) (hs : act.eval s = .slice p N pc)
    (hr : RdI K w B p A) (hA : A.length = N) (hN : N ≤ D) (hD : D ≤ L.length)
    (h : ∀ w', Arr T K w' g (A ++ L.drop N) → Turn (fun k => k = g) w w' → wpList P ops Q rest (act.put o.dst (goInt N)) w') : wpList P ops Q (o :: rest) act w := by
  rcases hr with rfl | ⟨b, off, rfl, hb, hc⟩
  · obtain rfl : N = 0 := hA.symm
    refine wpList_copy_nothing hgd d s dT sT ho elem hu hsz _ p D Dc 0 pc hd hs (by simp) ?_
    exact h w (by simpa using hg) (Turn.refl _ w)
  · have hmin : Nat.min N D = N := Nat.min_eq_left hN
    refine wpList_copy_own hgd d s dT sT ho elem hu hsz g 0 D Dc ⟨b, off, none⟩ N pc hd hs _ T hg (A.map (nv K)) (by rw [List.length_map, hA, hmin]) (fun j v hv => ?_) (by simp; omega) (nv_one K A) ?_
    · rw [List.getElem?_map] at hv
      cases hx : A[j]? with
      | none => rw [hx] at hv; cases hv
      | some x =>
        rw [hx] at hv
        simp only [Option.map_some, Option.some.injEq] at hv
        subst hv
        rw [show (⟨b, off, none⟩ : Addr).add j = ⟨b, off + j, none⟩ by unfold Addr.add; split <;> simp_all]
        exact hc j x hx
    · rw [List.length_map, hA]
      refine h _ ?_ ⟨rfl, rfl, rfl, by simp [World.setRow], fun k _ hk => setRow_other w g k _ hk⟩
      unfold Arr
      rw [setRow_heap w g _ _ T _ hg]
      simp
end Go.Proofs.YtmocmkfpblakbaaDoor
