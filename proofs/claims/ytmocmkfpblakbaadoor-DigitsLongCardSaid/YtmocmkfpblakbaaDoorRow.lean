/- Words on memory: a slice of the call's own at any element type, k cells an element; append onto it. Plain lemmas on worlds and the laws of append at this program, no condition. -/
import Derived.Test.YtmocmkfpblakbaaDoorOwnIn
namespace Go.Proofs.YtmocmkfpblakbaaDoor
open Go.RowKit

/-- a slice that lies in a row of the call's own, from block B on: n elements of type e, k cells each -/
def Row (w : World) (B : Nat) (e : TypeId) (k : Nat) (a : Option Addr) (n c : Nat) (xs : List Value) : Prop := w.ownsRow B e k (.slice a n c) n xs

section
variable {w w' : World} {B : Nat} {e : TypeId} {k : Nat} {a : Option Addr} {n c : Nat} {xs : List Value}
theorem Row.len (h : Row w B e k a n c xs) : xs.length = n * k := h.1
theorem Row.nil_ (w : World) (B : Nat) (e : TypeId) (k : Nat) : Row w B e k none 0 0 [] := ⟨by simp, .inl ⟨rfl, rfl⟩⟩
theorem Row.form (h : Row w B e k a n c xs) : (a = none ∧ n = 0 ∧ c = 0 ∧ xs = []) ∨ ∃ g cur, a = some ⟨g, 0, none⟩ ∧ B ≤ g ∧ g < w.heap.size ∧ w.heap[g]? = some (.cells cur e (0, 0)) ∧ n ≤ c ∧ c ≤ maxLen ∧ cur.size = c * k ∧ cur.toList.take (n * k) = xs := by
  obtain ⟨h1, ⟨h2, h3⟩ | ⟨g, cap, cur, hv, hg, hh, hn, hc, hs, ht⟩⟩ := h
  · injection h2 with e1 e2 e3
    subst e1; subst e2; subst e3
    exact .inl ⟨rfl, rfl, rfl, by simpa using h1⟩
  · injection hv with e1 e2 e3
    subst e1; subst e3
    exact .inr ⟨g, cur, rfl, hg, (Array.getElem?_eq_some_iff.1 hh).1, hh, hn, hc, hs, ht⟩
theorem Row.cap (h : Row w B e k a n c xs) : n ≤ c ∧ c ≤ maxLen := by
  rcases h.form with ⟨_, rfl, rfl, _⟩ | ⟨g, cur, _, _, _, _, hn, hc, _, _⟩
  · exact ⟨by omega, by omega⟩
  · exact ⟨hn, hc⟩
/-- where there is an element the row has a place, and each of its cells is there -/
theorem Row.at_ (h : Row w B e k a n c xs) {j : Nat} {x : Value} (hx : xs[j]? = some x) : ∃ g, a = some ⟨g, 0, none⟩ ∧ B ≤ g ∧ g < w.heap.size ∧ w.cell? ⟨g, j, none⟩ = some x := by
  rcases h.form with ⟨_, _, _, rfl⟩ | ⟨g, cur, rfl, hB, hg, hh, hn, hc, hs, ht⟩
  · simp at hx
  · refine ⟨g, rfl, hB, hg, ?_⟩
    rw [← ht, List.getElem?_take] at hx
    split at hx
    · rw [cell_of_row _ _ _ _ _ _ hh, ← Array.getElem?_toList]; exact hx
    · cases hx
theorem Row.call (h : Row w B e k a n c xs) (hb : Below w.heap.size w w') : Row w' B e k a n c xs := by
  refine ⟨h.1, ?_⟩
  rcases h.2 with h2 | ⟨g, cap, cur, hv, hg, hh, hr⟩
  · exact .inl h2
  · exact .inr ⟨g, cap, cur, hv, hg, (hb.block g (Array.getElem?_eq_some_iff.1 hh).1).trans hh, hr⟩
theorem Row.lower {B' : Nat} (h : Row w B e k a n c xs) (hB : B' ≤ B) : Row w B' e k a n c xs := by
  refine ⟨h.1, ?_⟩
  rcases h.2 with h2 | ⟨g, cap, cur, hv, hg, hr⟩
  · exact .inl h2
  · exact .inr ⟨g, cap, cur, hv, by omega, hr⟩
theorem Row.alloc (h : Row w B e k a n c xs) (o : Obj) : Row (w.alloc o) B e k a n c xs := h.call ((Below.refl _ _).alloc (Nat.le_refl _) _)
theorem Row.drew (h : Row w B e k a n c xs) : Row w.drew B e k a n c xs := h
theorem Row.drewN (h : Row w B e k a n c xs) (j : Nat) : Row (w.drewN j) B e k a n c xs := h
/-- a store elsewhere -/
theorem Row.far (h : Row w B e k a n c xs) {p : Addr} (hp : ∀ x, a = some x → x.block ≠ p.block) (u : Value) : Row (w.setCell p u) B e k a n c xs := by
  refine ⟨h.1, ?_⟩
  rcases h.2 with h2 | ⟨g, cap, cur, hv, hg, hh, hr⟩
  · exact .inl h2
  · refine .inr ⟨g, cap, cur, hv, hg, (Below.heap_setCell w p u g ?_).trans hh, hr⟩
    injection hv with e1
    exact hp _ e1
theorem Row.grown (h : Row w B e k a n c xs) {row : Option Nat} (hg : w.grownBy w' row) (hne : ∀ x, a = some x → some x.block ≠ row) : Row w' B e k a n c xs := by
  refine ⟨h.1, ?_⟩
  rcases h.2 with h2 | ⟨g, cap, cur, hv, hB, hh, hr⟩
  · exact .inl h2
  · refine .inr ⟨g, cap, cur, hv, hB, (hg.block g (Array.getElem?_eq_some_iff.1 hh).1 ?_).trans hh, hr⟩
    injection hv with e1
    exact hne _ e1
/-- rows of two element types lie in two blocks -/
theorem Row.ne {B' : Nat} {e' : TypeId} {k' : Nat} {a' : Option Addr} {n' c' : Nat} {xs' : List Value} (h : Row w B e k a n c xs) (h' : Row w B' e' k' a' n' c' xs') (he : e ≠ e') : ∀ x, a = some x → some x.block ≠ a'.map (·.block) := by
  intro x hx heq
  rcases h.form with ⟨h0, _⟩ | ⟨g, cur, h1, _, _, hh, _⟩
  · rw [h0] at hx; cases hx
  · rw [h1] at hx; injection hx with hx; subst hx
    rcases h'.form with ⟨h0, _⟩ | ⟨g', cur', h2, _, _, hh', _⟩
    · rw [h0] at heq; cases heq
    · rw [h2] at heq
      simp only [Option.map_some, Option.some.injEq] at heq
      rw [heq, hh'] at hh
      injection hh with hh
      injection hh with _ e2
      exact he e2.symm
theorem Row.row_le (h : Row w B e k a n c xs) : ∀ j, a.map (·.block) = some j → B ≤ j := by
  intro j hj
  rcases h.form with ⟨rfl, _⟩ | ⟨g, cur, rfl, hg, _⟩
  · cases hj
  · simp at hj; omega
theorem Row.lit (w : World) (hB : B ≤ w.heap.size) (e : TypeId) (k : Nat) (cs : Array Value) (n : Nat) (hm : n ≤ maxLen) (hk : cs.size = n * k) : Row (w.alloc (.cells cs e)) B e k (some ⟨w.heap.size, 0, none⟩) n n cs.toList :=
  ⟨by simp [hk], .inr ⟨w.heap.size, n, cs, rfl, hB, heap_alloc_new w _, Nat.le_refl _, hm, hk, List.take_of_length_le (by simp [hk])⟩⟩
end
theorem Own.row {w : World} {B : Nat} {a : Option Addr} {n c : Nat} {bs : List UInt8} (h : Own w B a n c bs) : Row w B 5 1 a n c (bs.map bv) := h
theorem Row.own {w : World} {B : Nat} {a : Option Addr} {n c : Nat} {bs : List UInt8} (h : Row w B 5 1 a n c (bs.map bv)) : Own w B a n c bs := h

set_option maxRecDepth 100000 in
/-- append onto a row of the call's own, of cells that lie at an address -/
theorem run_append_row (w0 w : World) (ty t e : TypeId) (i : TypeInfo) (z : Value) (size bytes : Nat) (ht : Tryd.prog.underlying t = some (.slice e)) (hi : Tryd.prog.info? e = some i) (hz : i.zero = some z)
    (hsize : i.size = size) (hby : i.bytes = bytes) (hzs : z.cells.size = size) (hsz : 0 < size)
    (B : Nat) (hb0 : Below B w0 w) (hB : B ≤ w.heap.size) (a : Option Addr) (n c : Nat) (xs : List Value) (hown : Row w B e size a n c xs)
    (ad : Addr) (m d : Nat) (news : List Value) (hl : news.length = m * size) (hnews : ∀ j u, news[j]? = some u → w.cell? (ad.add j) = some u) (h1 : ∀ u ∈ news, u.oneCell' = true) (N : Nat) (hN : n + m = N) (hsum : N ≤ 9223372036854775807) (hbytes : N * bytes ≤ 140737488355328) :
    ∃ a' c' w', (Builtin.append_ #[t, t] ty #[.slice a n c, .slice (some ad) m d]).run Tryd.prog w = .ok (.slice a' N c') w' ∧ Row w' B e size a' N c' (xs ++ news) ∧ w.grownBy w' (a.map (·.block)) ∧ Below B w0 w' ∧
      (a'.map (·.block) = a.map (·.block) ∨ a'.map (·.block) = some w.heap.size) := by
  subst hN
  have hblk : ∀ (x : Option Addr) (k l : Nat), Value.ownBlock (.slice x k l) = x.map (·.block) := fun x k l => by cases x <;> rfl
  obtain ⟨v', w', hrun, h2, h3, _, h5⟩ := run_append_own_at (P := Tryd.prog) w B t ty e i z size bytes ht hi hz hsize hby hzs hsz (.slice a n c) n _ hown ad m d news hl hnews h1 (by unfold maxLen; omega) hbytes hB
  rw [hblk] at h3 h5
  have h4 : Below B w0 w' := hb0.grown h3 hB hown.row_le
  rcases h2.2 with ⟨rfl, h0⟩ | ⟨g, cap, cur, rfl, hg⟩
  · rw [h0] at h2 ⊢
    exact ⟨none, 0, w', hrun, h2, h3, h4, by simpa [hblk] using h5⟩
  · exact ⟨_, cap, w', hrun, h2, h3, h4, by simpa [hblk] using h5⟩

section
variable {o : Oper} {act : Act} {Q : Exit → Act → World → Prop}
theorem wpList_append_row {ops : Array Oper} {rest : List Oper} (hgd : o.guard = none) (s x : Operand) (t : TypeId) (ho : o.op = .call { callee := .builtin .append, args := #[s, x], argTypes := #[t, t] })
    (w0 w : World) (e : TypeId) (i : TypeInfo) (z : Value) (size bytes : Nat) (ht : Tryd.prog.underlying t = some (.slice e)) (hi : Tryd.prog.info? e = some i) (hz : i.zero = some z)
    (hsize : i.size = size) (hby : i.bytes = bytes) (hzs : z.cells.size = size) (hsz : 0 < size)
    (B : Nat) (hb0 : Below B w0 w) (hB : B ≤ w.heap.size) (a : Option Addr) (n c : Nat) (xs : List Value) (hs : act.eval s = .slice a n c) (hown : Row w B e size a n c xs)
    (ad : Addr) (m d : Nat) (news : List Value) (hx : act.eval x = .slice (some ad) m d) (hl : news.length = m * size) (hnews : ∀ j u, news[j]? = some u → w.cell? (ad.add j) = some u) (h1 : ∀ u ∈ news, u.oneCell' = true) (N : Nat) (hN : n + m = N) (hsum : N ≤ 9223372036854775807) (hbytes : N * bytes ≤ 140737488355328)
    (h : ∀ a' c' w', Row w' B e size a' N c' (xs ++ news) → w.grownBy w' (a.map (·.block)) → Below B w0 w' → (a'.map (·.block) = a.map (·.block) ∨ a'.map (·.block) = some w.heap.size) → wpList Tryd.prog ops Q rest (act.put o.dst (.slice a' N c')) w') : wpList Tryd.prog ops Q (o :: rest) act w := by
  obtain ⟨a', c', w', hrun, h2, h3, h4, h5⟩ := run_append_row w0 w o.type t e i z size bytes ht hi hz hsize hby hzs hsz B hb0 hB a n c xs hown ad m d news hl hnews h1 N hN hsum hbytes
  exact wpList_append_run hgd s x t t ho _ _ hs hx _ _ hrun (h a' c' w' h2 h3 h4 h5)
/-- append by its run, inside a fence -/
theorem wpListIn_append_run {F : Fence} {f : Nat} {P : Program} {ops : Array Oper} {rest : List Oper} {w : World} (hgd : o.guard = none) (s x : Operand) (t1 t2 : TypeId) (ho : o.op = .call { callee := .builtin .append, args := #[s, x], argTypes := #[t1, t2] })
    (va vx : Value) (hs : act.eval s = va) (hx : act.eval x = vx) (v : Value) (w' : World) (hrun : (Builtin.append_ #[t1, t2] o.type #[va, vx]).run P w = .ok v w') (h : wpListIn F f P ops Q rest (act.put o.dst v) w') : wpListIn F f P ops Q (o :: rest) act w := by
  refine wpListIn_plain hgd fun K hK' => ?_
  unfold Oper.wpIn
  refine ⟨?_, ?_⟩
  · simp [Oper.about, ho, resolve, Target.leads, Sem.run_pure]
  · rw [Oper.semAt_plain F _ _ (by rw [ho]; intro c hc'; cases hc')]
    simp [execOp, ho, resolve, invoke, builtin, hs, hx, hrun, Result.andThen]
    exact hK' _ _ h
theorem wpListIn_append_row {F : Fence} {f : Nat} {ops : Array Oper} {rest : List Oper} (hgd : o.guard = none) (s x : Operand) (t : TypeId) (ho : o.op = .call { callee := .builtin .append, args := #[s, x], argTypes := #[t, t] })
    (w0 w : World) (e : TypeId) (i : TypeInfo) (z : Value) (size bytes : Nat) (ht : Tryd.prog.underlying t = some (.slice e)) (hi : Tryd.prog.info? e = some i) (hz : i.zero = some z)
    (hsize : i.size = size) (hby : i.bytes = bytes) (hzs : z.cells.size = size) (hsz : 0 < size)
    (B : Nat) (hb0 : Below B w0 w) (hB : B ≤ w.heap.size) (a : Option Addr) (n c : Nat) (xs : List Value) (hs : act.eval s = .slice a n c) (hown : Row w B e size a n c xs)
    (ad : Addr) (m d : Nat) (news : List Value) (hx : act.eval x = .slice (some ad) m d) (hl : news.length = m * size) (hnews : ∀ j u, news[j]? = some u → w.cell? (ad.add j) = some u) (h1 : ∀ u ∈ news, u.oneCell' = true) (N : Nat) (hN : n + m = N) (hsum : N ≤ 9223372036854775807) (hbytes : N * bytes ≤ 140737488355328)
    (h : ∀ a' c' w', Row w' B e size a' N c' (xs ++ news) → w.grownBy w' (a.map (·.block)) → Below B w0 w' → (a'.map (·.block) = a.map (·.block) ∨ a'.map (·.block) = some w.heap.size) → wpListIn F f Tryd.prog ops Q rest (act.put o.dst (.slice a' N c')) w') : wpListIn F f Tryd.prog ops Q (o :: rest) act w := by
  obtain ⟨a', c', w', hrun, h2, h3, h4, h5⟩ := run_append_row w0 w o.type t e i z size bytes ht hi hz hsize hby hzs hsz B hb0 hB a n c xs hown ad m d news hl hnews h1 N hN hsum hbytes
  exact wpListIn_append_run hgd s x t t ho _ _ hs hx _ _ hrun (h a' c' w' h2 h3 h4 h5)
end
/-- the cells of a block that has just been laid -/
theorem cells_new (w : World) (cs : Array Value) (e : TypeId) (p : Nat × Nat) : ∀ (j : Nat) u, cs.toList[j]? = some u → (w.alloc (.cells cs e p)).cell? ((⟨w.heap.size, 0, none⟩ : Addr).add j) = some u := by
  intro j u hu
  rw [Addr.add_lit, Nat.zero_add, cell_of_row _ _ _ _ _ _ (heap_alloc_new _ _), ← Array.getElem?_toList]; exact hu
end Go.Proofs.YtmocmkfpblakbaaDoor
