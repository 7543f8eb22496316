/- Words on memory: a slice of bytes that the call itself made, and append onto it. Plain lemmas on worlds and the laws of append at this program, no condition. -/
import Derived.Test.YtmocmkfpblakbaaDoorProg
import Derived.Test.YtmocmkfpblakbaaDoorBytes
import Derived.WalkKit
import Derived.Maps.AppendAt
import Derived.Deep.AppendLies
import Derived.RegionTactic
import Derived.Lib.Hide
namespace Go.Proofs.YtmocmkfpblakbaaDoor
open Go.RowKit

theorem info_u8 : (Tryd.prog.info? 5).map (fun i => (i.zero, i.size, i.bytes)) = some (some (.int .u8 0), 1, 1) := by kernel_rfl
theorem Rd.step {w w' : World} {a : Option Addr} {bs : List UInt8} (h : Rd w w.heap.size a bs) (hb : Below w.heap.size w w') : Rd w' w'.heap.size a bs := (h.below hb).more hb.size
theorem Below.next {w0 w w' : World} {B : Nat} (h : Below B w0 w) (hb : Below w.heap.size w w') (hB : B ≤ w.heap.size) : Below B w0 w' := h.trans (hb.mono hB)
theorem Below.next0 {w0 w w' : World} (h : Below w0.heap.size w0 w) (hb : Below w.heap.size w w') : Below w0.heap.size w0 w' := h.trans (hb.mono h.size)

/-- a slice of bytes that lies in a row of the call's own, from block B on -/
def Own (w : World) (B : Nat) (a : Option Addr) (n c : Nat) (bs : List UInt8) : Prop := w.ownsRow B 5 1 (.slice a n c) n (bs.map bv)

section
variable {w w' : World} {B : Nat} {a : Option Addr} {n c : Nat} {bs : List UInt8}
theorem Own.len (h : Own w B a n c bs) : bs.length = n := by have := h.1; simpa using this
theorem Own.nil_ (w : World) (B : Nat) : Own w B none 0 0 [] := ⟨rfl, .inl ⟨rfl, rfl⟩⟩
theorem Own.form (h : Own w B a n c bs) : (a = none ∧ n = 0 ∧ c = 0 ∧ bs = []) ∨ ∃ g cur, a = some ⟨g, 0, none⟩ ∧ B ≤ g ∧ g < w.heap.size ∧ w.heap[g]? = some (.cells cur 5 (0, 0)) ∧ n ≤ c ∧ c ≤ maxLen ∧ cur.size = c ∧ cur.toList.take n = bs.map bv := by
  obtain ⟨h1, ⟨h2, h3⟩ | ⟨g, cap, cur, hv, hg, hh, hn, hc, hs, ht⟩⟩ := h
  · injection h2 with e1 e2 e3
    subst e1; subst e2; subst e3
    exact .inl ⟨rfl, rfl, rfl, by simpa using h1⟩
  · injection hv with e1 e2 e3
    subst e1; subst e3
    exact .inr ⟨g, cur, rfl, hg, (Array.getElem?_eq_some_iff.1 hh).1, hh, hn, hc, by simpa using hs, by simpa using ht⟩
theorem Own.cap (h : Own w B a n c bs) : n ≤ c ∧ c ≤ maxLen := by
  rcases h.form with ⟨_, rfl, rfl, _⟩ | ⟨g, cur, _, _, _, _, hn, hc, _, _⟩
  · exact ⟨by omega, by omega⟩
  · exact ⟨hn, hc⟩
theorem Own.rd (h : Own w B a n c bs) : Rd w w.heap.size a bs := by
  rcases h.form with ⟨_, _, _, rfl⟩ | ⟨g, cur, rfl, _, hg, hh, hn, hc, hs, ht⟩
  · exact .inl rfl
  · refine .inr ⟨g, 0, rfl, hg, fun j x hx => ?_⟩
    have hj : j < n := by
      have := (List.getElem?_eq_some_iff.1 hx).1
      rw [h.len] at this; exact this
    rw [cell_of_row _ _ _ _ _ _ hh, Nat.zero_add, ← Array.getElem?_toList]
    have e : (cur.toList.take n)[j]? = (bs.map bv)[j]? := by rw [ht]
    rw [List.getElem?_take, if_pos hj, List.getElem?_map, hx] at e
    exact e
theorem Own.call (h : Own w B a n c bs) (hb : Below w.heap.size w w') : Own w' B a n c bs := by
  refine ⟨h.1, ?_⟩
  rcases h.2 with h2 | ⟨g, cap, cur, hv, hg, hh, hr⟩
  · exact .inl h2
  · exact .inr ⟨g, cap, cur, hv, hg, (hb.block g (Array.getElem?_eq_some_iff.1 hh).1).trans hh, hr⟩
theorem Own.lower {B' : Nat} (h : Own w B a n c bs) (hB : B' ≤ B) : Own w B' a n c bs := by
  refine ⟨h.1, ?_⟩
  rcases h.2 with h2 | ⟨g, cap, cur, hv, hg, hr⟩
  · exact .inl h2
  · exact .inr ⟨g, cap, cur, hv, by omega, hr⟩
theorem Own.alloc (h : Own w B a n c bs) (o : Obj) : Own (w.alloc o) B a n c bs := h.call ((Below.refl _ _).alloc (Nat.le_refl _) _)
theorem Own.drew (h : Own w B a n c bs) : Own w.drew B a n c bs := h
theorem Own.drewN (h : Own w B a n c bs) (k : Nat) : Own (w.drewN k) B a n c bs := h
/-- a store elsewhere -/
theorem Own.far (h : Own w B a n c bs) {p : Addr} (hp : ∀ x, a = some x → x.block ≠ p.block) (u : Value) : Own (w.setCell p u) B a n c bs := by
  refine ⟨h.1, ?_⟩
  rcases h.2 with h2 | ⟨g, cap, cur, hv, hg, hh, hr⟩
  · exact .inl h2
  · refine .inr ⟨g, cap, cur, hv, hg, (Below.heap_setCell w p u g ?_).trans hh, hr⟩
    injection hv with e1
    exact hp _ e1
theorem Own.grown (h : Own w B a n c bs) {row : Option Nat} (hg : w.grownBy w' row) (hne : ∀ x, a = some x → some x.block ≠ row) : Own w' B a n c bs := by
  refine ⟨h.1, ?_⟩
  rcases h.2 with h2 | ⟨g, cap, cur, hv, hB, hh, hr⟩
  · exact .inl h2
  · refine .inr ⟨g, cap, cur, hv, hB, (hg.block g (Array.getElem?_eq_some_iff.1 hh).1 ?_).trans hh, hr⟩
    injection hv with e1
    exact hne _ e1
/-- a store of a byte into the row itself -/
theorem Own.store {g : Nat} (h : Own w B (some ⟨g, 0, none⟩) n c bs) {i : Nat} (x : UInt8) : Own (w.setCell ⟨g, i, none⟩ (.int .u8 (x.toNat : Int))) B (some ⟨g, 0, none⟩) n c (bs.set i x) := by
  rcases h.form with ⟨h0, _⟩ | ⟨g', cur, e, hB, hg, hh, hn, hc, hs, ht⟩
  · cases h0
  · injection e with e; injection e with e; subst e
    refine ⟨by have := h.1; simpa using this, .inr ⟨g, c, cur.setIfInBounds i (bv x), rfl, hB, heap_setCell_same _ _ _ _ _ _ hh, hn, hc, by simpa using hs, ?_⟩⟩
    rw [Nat.mul_one, Array.toList_setIfInBounds, List.map_set, ← ht, List.take_set]
end
section
variable {w w' : World} {B : Nat} {a : Option Addr} {n c : Nat} {bs : List UInt8}
theorem Own.frozen {g : Nat} (h : Own w B (some ⟨g, 0, none⟩) n c bs) (i : Nat) : w.frozen? ⟨g, i, none⟩ = false := by
  rcases h.form with ⟨h0, _⟩ | ⟨g', cur, e, hB, hg, hh, _⟩
  · cases h0
  · injection e with e; injection e with e; subst e
    exact frozen_of_row _ _ _ _ _ hh
theorem Own.cell {g : Nat} (h : Own w B (some ⟨g, 0, none⟩) n c bs) {i : Nat} {x : UInt8} (hx : bs[i]? = some x) : w.cell? ⟨g, i, none⟩ = some (.int .u8 (x.toNat : Int)) := by
  rcases h.rd with rfl | ⟨b, o, e, hb, hc⟩
  · simp at hx
  · injection e with e; injection e with e1 e2; subst e1; subst e2
    have := hc i x hx
    rwa [Nat.zero_add] at this
/-- where there is a byte the row has a place -/
theorem Own.at_ (h : Own w B a n c bs) (hn : 0 < n) : ∃ g, a = some ⟨g, 0, none⟩ ∧ B ≤ g ∧ g < w.heap.size := by
  rcases h.form with ⟨_, h0, _⟩ | ⟨g, cur, rfl, hB, hg, _⟩
  · omega
  · exact ⟨g, rfl, hB, hg⟩
theorem Own.lit (w : World) (hB : B ≤ w.heap.size) (cs : Array Value) (h : cs.toList = bs.map bv) (hm : cs.size ≤ maxLen) : Own (w.alloc (.cells cs 5)) B (some ⟨w.heap.size, 0, none⟩) cs.size cs.size bs := by
  have := World.ownsRow_lit (base := B) (e := 5) (size := 1) w cs cs.size hB hm (by omega)
  unfold Own
  rwa [h] at this
theorem bv_one (bs : List UInt8) : ∀ u ∈ bs.map bv, u.oneCell' = true := by
  intro u hu
  obtain ⟨x, _, rfl⟩ := List.mem_map.1 hu
  rfl
end

/-- cuts of a slice of bytes, the address kept under one name -/
theorem under_bytes : Tryd.prog.underlying 25 = some (.slice (Tryd.prog.elem 25)) := by kernel_rfl
theorem size_u8 (w : World) : (sizeOf (Tryd.prog.elem 25)).run Tryd.prog w = .ok 1 w := by kernel_rfl
theorem slice_lh_b (w : World) (a : Option Addr) (len cap : Nat) (kl kh : IntKind) (l h : Int) (h0 : 0 ≤ l) (h1 : l ≤ h) (h2 : h ≤ cap) :
    (Instr.slice 25 (.slice a len cap) (some (.int kl l)) (some (.int kh h)) none).run Tryd.prog w = .ok (.slice (cutA a cap l.toNat 1) (h.toNat - l.toNat) (cap - l.toNat)) w := by
  rw [run_slice_lh w _ a len cap under_bytes kl kh l h h0 h1 h2, size_u8]; rfl
theorem slice_l_b (w : World) (a : Option Addr) (len cap : Nat) (kl : IntKind) (l : Int) (h0 : 0 ≤ l) (h1 : l ≤ len) :
    (Instr.slice 25 (.slice a len cap) (some (.int kl l)) none none).run Tryd.prog w = .ok (.slice (cutA a cap l.toNat 1) (len - l.toNat) (cap - l.toNat)) w := by
  rw [run_slice_l w _ a len cap under_bytes kl l h0 h1, size_u8]; rfl
theorem slice_h_b (w : World) (a : Option Addr) (len cap : Nat) (kh : IntKind) (h : Int) (h0 : 0 ≤ h) (h2 : h ≤ cap) :
    (Instr.slice 25 (.slice a len cap) none (some (.int kh h)) none).run Tryd.prog w = .ok (.slice a h.toNat cap) w := by
  rw [run_slice_h w _ a len cap under_bytes kh h h0 h2, size_u8]
  have := cutA_zero a cap 1
  show Result.ok (Value.slice (cutA a cap 0 1) _ _) w = _
  rw [this, Nat.sub_zero, Nat.sub_zero]

set_option maxRecDepth 100000 in
/-- append onto a row of the call's own, of whatever reads as bytes -/
theorem run_append_b (w0 w : World) (ty : TypeId) (B : Nat) (hb0 : Below B w0 w) (hB : B ≤ w.heap.size) (a : Option Addr) (n c : Nat) (bs : List UInt8) (hown : Own w B a n c bs)
    (B2 : Nat) (A : Option Addr) (m d : Nat) (cs : List UInt8) (hr : Rd w B2 A cs) (hm : cs.length = m) (N : Nat) (hN : n + m = N) (hsum : N ≤ 140737488355328) :
    ∃ a' c' w', (Builtin.append_ #[25, 25] ty #[.slice a n c, .slice A m d]).run Tryd.prog w = .ok (.slice a' N c') w' ∧ Own w' B a' N c' (bs ++ cs) ∧ w.grownBy w' (a.map (·.block)) ∧ Below B w0 w' ∧
      (a'.map (·.block) = a.map (·.block) ∨ a'.map (·.block) = some w.heap.size) := by
  subst hN
  obtain ⟨i0, hi, hz0, hz1, hz2⟩ := info_parts info_u8
  have hblk : ∀ (x : Option Addr) (k l : Nat), Value.ownBlock (.slice x k l) = x.map (·.block) := fun x k l => by cases x <;> rfl
  have hrow : ∀ k, a.map (·.block) = some k → B ≤ k := by
    intro k hk
    rcases hown.form with ⟨rfl, _⟩ | ⟨g, cur, rfl, hg, _⟩
    · cases hk
    · simp at hk; omega
  have fin : ∀ v' w', w'.ownsRow B 5 1 v' (n + m) ((bs ++ cs).map bv) → w.grownBy w' (a.map (·.block)) → (v'.ownBlock = a.map (·.block) ∨ v'.ownBlock = some w.heap.size) →
      ∃ a' c', v' = .slice a' (n + m) c' ∧ Own w' B a' (n + m) c' (bs ++ cs) ∧ w.grownBy w' (a.map (·.block)) ∧ Below B w0 w' ∧ (a'.map (·.block) = a.map (·.block) ∨ a'.map (·.block) = some w.heap.size) := by
    intro v' w' h1 h2 h3
    have h4 : Below B w0 w' := hb0.grown h2 hB hrow
    rcases h1.2 with ⟨rfl, h0⟩ | ⟨g, cap, cur, rfl, hg⟩
    · rw [h0] at h1 ⊢
      exact ⟨none, 0, rfl, h1, h2, h4, by simpa [hblk] using h3⟩
    · exact ⟨_, cap, rfl, h1, h2, h4, by simpa [hblk] using h3⟩
  rcases A with _ | ad
  · have h0 : cs = [] := by rcases hr with h | ⟨_, _, h, _⟩ <;> first | exact h | cases h
    subst h0
    obtain rfl : m = 0 := by simpa using hm.symm
    refine ⟨a, c, w, ?_, by simpa using hown, World.grownBy.refl w _, hb0, .inl rfl⟩
    rcases hown.form with ⟨rfl, rfl, rfl, _⟩ | ⟨g, cur, rfl, _, _, _, hnc, _⟩
    · simp [Builtin.append_, run_underlying Tryd.underlying25, sizeOf, typeInfo, hi, Builtin.lenOf, Builtin.firstCells]
    · simp [Builtin.append_, run_underlying Tryd.underlying25, sizeOf, typeInfo, hi, Builtin.lenOf, Builtin.firstCells, hnc, storeCells]
  · have hcells : ∀ j u, (cs.map bv)[j]? = some u → w.cell? (ad.add j) = some u := by
      intro j u hu
      rcases hr with rfl | ⟨b, o, e, _, hc⟩
      · simp at hu
      · injection e with e; subst e
        rw [List.getElem?_map] at hu
        cases hx : cs[j]? with
        | none => rw [hx] at hu; cases hu
        | some x =>
          rw [hx] at hu
          simp only [Option.map_some, Option.some.injEq] at hu
          subst hu
          have := hc j x hx
          have e2 : (⟨b, o, none⟩ : Addr).add j = ⟨b, o + j, none⟩ := by unfold Addr.add; split <;> simp_all
          rw [e2]; exact this
    obtain ⟨v', w', hrun, h2, h3, _, h5⟩ := run_append_own_at (P := Tryd.prog) w B 25 ty 5 i0 (.int .u8 0) 1 1 Tryd.underlying25 hi hz0 hz1 hz2 rfl (by omega) (.slice a n c) n _ hown ad m d (cs.map bv) (by simpa using hm) hcells (bv_one _) (by unfold maxLen; omega) (by omega) hB
    rw [hblk] at h3 h5
    obtain ⟨a', c', rfl, h6, h7, h8, h9⟩ := fin v' w' (by rw [List.map_append]; exact h2) h3 h5
    exact ⟨a', c', w', hrun, h6, h7, h8, h9⟩

section
variable {o : Oper} {act : Act} {Q : Exit → Act → World → Prop}
theorem wp_append_b {K : Act → World → Prop} (s x : Operand) (ho : o.op = .call { callee := .builtin .append, args := #[s, x], argTypes := #[25, 25] })
    (w0 w : World) (B : Nat) (hb0 : Below B w0 w) (hB : B ≤ w.heap.size) (a : Option Addr) (n c : Nat) (bs : List UInt8) (hs : act.eval s = .slice a n c) (hown : Own w B a n c bs)
    (B2 : Nat) (A : Option Addr) (m d : Nat) (cs : List UInt8) (hx : act.eval x = .slice A m d) (hr : Rd w B2 A cs) (hm : cs.length = m) (N : Nat) (hN : n + m = N) (hsum : N ≤ 140737488355328)
    (h : ∀ a' c' w', Own w' B a' N c' (bs ++ cs) → w.grownBy w' (a.map (·.block)) → Below B w0 w' → (a'.map (·.block) = a.map (·.block) ∨ a'.map (·.block) = some w.heap.size) → K (act.put o.dst (.slice a' N c')) w') : o.wp Tryd.prog act w K Q := by
  obtain ⟨a', c', w', hrun, h1, h2, h3, h4⟩ := run_append_b w0 w o.type B hb0 hB a n c bs hown B2 A m d cs hr hm N hN hsum
  unfold Oper.wp execOp
  simp only [ho, resolve, invoke, builtin, Sem.run_bind, Sem.run_pure, Result.andThen_ok, List.map_toArray, List.map_cons, List.map_nil, hs, hx, hrun]
  exact h a' c' w' h1 h2 h3 h4
theorem wpList_append_b {ops : Array Oper} {rest : List Oper} (hgd : o.guard = none) (s x : Operand) (ho : o.op = .call { callee := .builtin .append, args := #[s, x], argTypes := #[25, 25] })
    (w0 w : World) (B : Nat) (hb0 : Below B w0 w) (hB : B ≤ w.heap.size) (a : Option Addr) (n c : Nat) (bs : List UInt8) (hs : act.eval s = .slice a n c) (hown : Own w B a n c bs)
    (B2 : Nat) (A : Option Addr) (m d : Nat) (cs : List UInt8) (hx : act.eval x = .slice A m d) (hr : Rd w B2 A cs) (hm : cs.length = m) (N : Nat) (hN : n + m = N) (hsum : N ≤ 140737488355328)
    (h : ∀ a' c' w', Own w' B a' N c' (bs ++ cs) → w.grownBy w' (a.map (·.block)) → Below B w0 w' → (a'.map (·.block) = a.map (·.block) ∨ a'.map (·.block) = some w.heap.size) → wpList Tryd.prog ops Q rest (act.put o.dst (.slice a' N c')) w') : wpList Tryd.prog ops Q (o :: rest) act w :=
  wpList_plain hgd fun _ hK => wp_append_b s x ho w0 w B hb0 hB a n c bs hs hown B2 A m d cs hx hr hm N hN hsum fun a' c' w' h1 h2 h3 h4 => hK _ _ (h a' c' w' h1 h2 h3 h4)
/-- an operation whose guard lets it run -/
theorem wpList_wanted {P : Program} {ops : Array Oper} {rest : List Oper} {w : World} (hw : Region.wanted o (yielded ops act.tmps) = true) (h : ∀ K : Act → World → Prop, (∀ a w, wpList P ops Q rest a w → K a w) → o.wp P act w K Q) : wpList P ops Q (o :: rest) act w :=
  wpList_step fun K hK => by simp only [hw, if_true]; exact h K hK
theorem wpList_append_bw {ops : Array Oper} {rest : List Oper} (s x : Operand) (ho : o.op = .call { callee := .builtin .append, args := #[s, x], argTypes := #[25, 25] })
    (w0 w : World) (B : Nat) (hb0 : Below B w0 w) (hB : B ≤ w.heap.size) (a : Option Addr) (n c : Nat) (bs : List UInt8) (hs : act.eval s = .slice a n c) (hown : Own w B a n c bs)
    (B2 : Nat) (A : Option Addr) (m d : Nat) (cs : List UInt8) (hx : act.eval x = .slice A m d) (hr : Rd w B2 A cs) (hm : cs.length = m) (N : Nat) (hN : n + m = N) (hsum : N ≤ 140737488355328) (hw : Region.wanted o (yielded ops act.tmps) = true)
    (h : ∀ a' c' w', Own w' B a' N c' (bs ++ cs) → w.grownBy w' (a.map (·.block)) → Below B w0 w' → (a'.map (·.block) = a.map (·.block) ∨ a'.map (·.block) = some w.heap.size) → wpList Tryd.prog ops Q rest (act.put o.dst (.slice a' N c')) w') : wpList Tryd.prog ops Q (o :: rest) act w :=
  wpList_wanted hw fun _ hK => wp_append_b s x ho w0 w B hb0 hB a n c bs hs hown B2 A m d cs hx hr hm N hN hsum fun a' c' w' h1 h2 h3 h4 => hK _ _ (h a' c' w' h1 h2 h3 h4)
/-- a text out of bytes -/
theorem push_all (bs : List UInt8) (s : ByteArray) : (bs.map fun b => (b.toNat : Int)).foldl (fun r n => r.push (UInt8.ofNat n.toNat)) s = ⟨s.data ++ bs.toArray⟩ := by
  induction bs generalizing s with
  | nil => simp
  | cons b l ih =>
    simp only [List.map_cons, List.foldl_cons, Int.toNat_natCast]
    rw [ih, show UInt8.ofNat b.toNat = b from UInt8.ofNat_toNat]
    simp [ByteArray.push]
theorem run_string_b (w : World) (B : Nat) (a : Option Addr) (n c : Nat) (bs : List UInt8) (h : Rd w B a bs) (hn : bs.length = n) :
    (convert 25 9 (.slice a n c)).run Tryd.prog w = .ok (.string ⟨bs.toArray⟩) w := by
  rw [run_convert_bytes_string w _ _ 5 a n c Tryd.underlying25 Tryd.underlying5 Tryd.underlying9]
  cases a with
  | none =>
    have hb : bs = [] := by rcases h with h | ⟨_, _, h, _⟩ <;> first | exact h | cases h
    subst hb
    simp [Conv.bytesToString, Sem.run_pure]
    rfl
  | some x =>
    have hl : (loadCells x n).run Tryd.prog w = .ok ((bs.map fun b => (b.toNat : Int)).map (Value.int .u8)).toArray w := by
      have := run_loadCells_list (P := Tryd.prog) w x ((bs.map fun b => (b.toNat : Int)).map (Value.int .u8)) (fun j v hv => by
        rcases h with rfl | ⟨b, o, e, _, hc⟩
        · simp at hv
        · injection e with e; subst e
          rw [List.map_map, List.getElem?_map] at hv
          cases hx : bs[j]? with
          | none => rw [hx] at hv; cases hv
          | some u =>
            rw [hx] at hv
            simp only [Option.map_some, Option.some.injEq] at hv
            subst hv
            have e2 : (⟨b, o, none⟩ : Addr).add j = ⟨b, o + j, none⟩ := by unfold Addr.add; split <;> simp_all
            rw [e2]; exact hc j u hx)
      rw [List.length_map, List.length_map, hn] at this
      exact this
    rw [run_bytesToString w x n c _ hl, push_all]
    simp [ByteArray.empty, ByteArray.emptyWithCapacity]
    rfl
/-- append by its run -/
theorem wpList_append_run {P : Program} {ops : Array Oper} {rest : List Oper} {w : World} (hgd : o.guard = none) (s x : Operand) (t1 t2 : TypeId) (ho : o.op = .call { callee := .builtin .append, args := #[s, x], argTypes := #[t1, t2] })
    (va vx : Value) (hs : act.eval s = va) (hx : act.eval x = vx) (v : Value) (w' : World) (hrun : (Builtin.append_ #[t1, t2] o.type #[va, vx]).run P w = .ok v w') (h : wpList P ops Q rest (act.put o.dst v) w') : wpList P ops Q (o :: rest) act w :=
  wpList_plain hgd fun _ hK => by
    unfold Oper.wp execOp
    simp only [ho, resolve, invoke, builtin, Sem.run_bind, Sem.run_pure, Result.andThen_ok, List.map_toArray, List.map_cons, List.map_nil, hs, hx, hrun]
    exact hK _ _ h
end
end Go.Proofs.YtmocmkfpblakbaaDoor
